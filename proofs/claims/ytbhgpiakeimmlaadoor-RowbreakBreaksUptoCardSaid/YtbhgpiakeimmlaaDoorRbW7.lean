/-
  rowbreak, walked: exact.
-/
import Derived.Test.YtbhgpiakeimmlaaDoorRbT
namespace Go.Gh
set_option linter.unusedSimpArgs false
set_option linter.unusedVariables false
open Go.RowKit
set_option maxRecDepth 4000

theorem set_twice {l : List Int} {i : Nat} {a b : Int} : (l.set i a).set i b = l.set i b := by simp
theorem set_at {l : List Int} {i : Nat} {a : Int} (h : i < l.length) : (l.set i a)[i]? = some a := by simp [h]
/-- a table of numbers that can be sliced -/
structure Tbl (H : GHeap) (v : Value) (m n : Nat) (rows : Nat → List Int) : Prop where
  ex : ∃ i gc ids, v = .slice (some ⟨i, 0, none⟩) m gc ∧ i < H.len ∧ m = ids.length ∧ GArg1 H 1 v m (tab m ids n) ∧ ∀ k, k < m → ids[k]! < H.len ∧ H.cs ids[k]! = some (ints .i64 (rows k))
theorem Tbl.later {H H' : GHeap} {v : Value} {m n : Nat} {rows : Nat → List Int} (h : Tbl H v m n rows) (hw : H.wf) (hS : Same H H') : Tbl H' v m n rows := by
  obtain ⟨i, gc, ids, e, h1, h2, h3, h4⟩ := h.ex
  exact ⟨i, gc, ids, e, Nat.lt_of_lt_of_le h1 hS.len, h2, h3.same hw hS, fun k hk => ⟨Nat.lt_of_lt_of_le (h4 k hk).1 hS.len, by rw [hS.cs (h4 k hk).1]; exact (h4 k hk).2⟩⟩
theorem RS.tbl {H H1 : GHeap} {io s n : Nat} {ids : List Nat} {rows : Nat → List Int} (h : RS H H1 io s n ids rows) (hs : s = ids.length) : Tbl H1 (.slice (some ⟨io, 0, none⟩) s (s + 1)) s n rows :=
  ⟨io, s + 1, ids, rfl, h.io2, hs, OwnG.arg h.same.wf (u := 1) ⟨by rw [tab_len, Nat.mul_one], .inr ⟨io, s + 1, rfl, .inr rfl, h.out⟩⟩ (.inr rfl), fun k hk => ⟨(h.id k (by omega)).2.1, mine_cs (h.row k (by omega))⟩⟩
set_option maxHeartbeats 2000000 in
theorem exact_ok {H : GHeap} (hw : H.wf) {v : Value} {p : Par} (hs : Sht H v p) (hk : PK H p) :
    ∃ r H', gev G 36 [v] H = some (r, H') ∧ (Tbl H' r (p.r.toNat + 1) (p.l.length + 1) (fun k => (List.range (p.l.length + 1)).map (p.D.E k)) ∧ Same H H') := by
  refine gev_GW (f := 36) rfl fun Post hPost => ?_
  have hlim := hw.1
  have hn := hk.n
  have hpar := parF_ok hk.ok
  have hG := Par.good hk.ok
  have hD : p.D.n = p.l.length := rfl
  obtain ⟨R, hR⟩ : ∃ R : Nat, p.r = R := ⟨p.r.toNat, by omega⟩
  have hR' : p.r.toNat = R := by omega
  rw [hR'] at hPost
  obtain ⟨id, sv, hv, hid, hc, hr⟩ := hs.ex
  have e : ∀ H', Same H H' → ∀ o, H'.rd id o = (shC p sv p.aim)[o]? := fun H' hS o => by
    rw [hS.rd hid]; simp only [GHeap.rd, hc]; rfl
  have e0 := e H (Same.refl hw)
  have e2 : (shC p sv p.aim)[2]? = some (.int .i64 (R : Nat)) := by rw [shC_2, hR]
  generalize hnn : p.l.length = n at *
  simp only [frameOf, Nat.reduceAdd]
  repeat' (first | refine zA ?_ | refine zB ?_ | refine zC ?_ | refine zD ?_ | refine zE ?_ | refine zF ?_ | refine zG ?_ | refine zH ?_ | refine zI ?_ | refine zJ ?_ | refine zK rfl ?_ | refine zL ?_ | refine zM ?_ | refine zN ?_ | refine zO ?_ | refine zP rfl ?_ | refine zQ ?_ | ((first | refine zR ?_ | refine zS ?_ | refine zT ?_ | skip); intro K k; simp (disch := (first | (simp only [yD2, beq_self_eq_true, Nat.reduceLT, Nat.reduceAdd]; done) | ((fail_if_success (apply Bool.eq_iff_iff.2)); first | omega | (simp only [yD2, beq_self_eq_true, Nat.reduceLT, Nat.reduceAdd] <;> omega)) | fail)) only [↓yS, yT, ↓reduceIte, Nat.reduceEqDiff, Nat.reduceAdd, Nat.reduceMul, reduceCtorEq, Int.reduceToNat, g36]; refine yC (k _ _ ?_); clear k K) | ((first | refine zU ?_ | refine zV ?_ | refine zW ?_); intro A B C D a b c d; simp only [↓yG, Nat.reduceEqDiff, ↓reduceIte, g36]; (first | refine zX (a ?_) | refine zY (b ?_) | refine zZ (fun hc => c ?_) (fun hc => d ?_)) <;> clear a b c d A B C D <;> try simp only [yL] at hc) | (refine yA ?_; intro A a; simp only [↓yG, Nat.reduceEqDiff, ↓reduceIte, g36]; refine yB (a ?_); clear a A) | (refine yD ?_; simp only [gresults, ↓yG, Nat.reduceEqDiff, ↓reduceIte, Option.bind_some, gld_1, gld_n, g36]; refine ⟨_, rfl, ?_⟩; simp only [gone]))
  refine Gw_s fun K' hK' => G1_call (by simp only [gtarget, ↓GArg.ev, ↓evs, ↓Tr.get_set, Nat.reduceEqDiff, if_true, if_false, ↓reduceIte, Option.map_some]; rfl) (sn_ok hs hk.pr) fun r1 H1 hq => hK' _ _ ?_
  obtain ⟨rfl, rfl⟩ := hq
  rw [hnn]
  have hsub : ∀ H', Same H1 H' → Sht H' v p := fun H' h => hs.later h
  subst hv
  have hRn : ((R : Int) + 1).toNat = R + 1 := by omega
  have hnN : ((n : Int) + 1).toNat = n + 1 := by omega
  repeat' (first | (exfalso; omega) | refine zA ?_ | refine zB ?_ | refine zC ?_ | refine zD ?_ | refine zE ?_ | refine zF ?_ | refine zG ?_ | refine zH ?_ | refine zI ?_ | refine zJ ?_ | refine zK rfl ?_ | refine zL ?_ | refine zM ?_ | refine zN ?_ | refine zO ?_ | refine zP rfl ?_ | refine zQ ?_ | ((first | refine zR ?_ | refine zS ?_ | refine zT ?_ | skip); intro K k; simp (disch := (first | (simp only [yD2, beq_self_eq_true, Nat.reduceLT, Nat.reduceAdd]; done) | ((fail_if_success (apply Bool.eq_iff_iff.2)); first | omega | (simp only [yD2, beq_self_eq_true, Nat.reduceLT, Nat.reduceAdd] <;> omega)) | fail)) only [↓yS, yT, ↓reduceIte, Nat.reduceEqDiff, Nat.reduceAdd, Nat.reduceMul, reduceCtorEq, Int.reduceToNat, g36, e0, e2, hRn]; refine yC (k _ _ ?_); clear k K) | ((first | refine zU ?_ | refine zV ?_ | refine zW ?_); intro A B C D a b c d; simp only [↓yG, Nat.reduceEqDiff, ↓reduceIte, g36, e0, e2, hRn]; (first | refine zX (a ?_) | refine zY (b ?_) | refine zZ (fun hc => c ?_) (fun hc => d ?_)) <;> clear a b c d A B C D <;> try simp only [yL] at hc) | (refine yA ?_; intro A a; simp only [↓yG, Nat.reduceEqDiff, ↓reduceIte, g36, e0, e2, hRn]; refine yB (a ?_); clear a A) | (refine yD ?_; simp only [gresults, ↓yG, Nat.reduceEqDiff, ↓reduceIte, Option.bind_some, gld_1, gld_n, g36, e0, e2, hRn]; refine ⟨_, rfl, ?_⟩; simp only [gone]))
  refine GW_loop (fun k fr H2 => ∃ (r : Nat) (ids : List Nat), r ≤ R + 1 ∧ k = R + 1 - r ∧ ids.length = r ∧ fr.get 0 = some (.pointer (some ⟨id, 0, none⟩)) ∧ fr.get 3 = some (.int .i64 n) ∧ fr.get 4 = some (.slice (some ⟨H1.len, 0, none⟩) (R + 1) (R + 1 + 1)) ∧ fr.get 20 = some (.int .i64 (R + 1 : Nat)) ∧ fr.get 21 = some (.int .i64 r) ∧ RS H1 H2 H1.len (R + 1) (n + 1) ids (fun k => (List.range (n + 1)).map (p.D.E k))) ?_ (R + 1) ?_
  rotate_left
  · refine ⟨0, [], by omega, by omega, rfl, ?_⟩
    simp only [↓yG, Nat.reduceEqDiff, ↓reduceIte, Int.natCast_add, Int.cast_ofNat_Int, Int.natCast_zero, true_and, and_true, Option.some.injEq, Value.int.injEq]
    refine ⟨(Same.refl hw).add _, Nat.le_refl _, Nat.lt_succ_self _, by simp, ?_, by simp, by simp, by simp⟩
    rw [tab_nil]; exact mine_add_eq rfl hlim
  rintro k fr H2 ⟨r, ids, hr1, rfl, hids, f0, f3, f4, f20, f21, hRS⟩ J hJ
  have hS1 := hRS.same
  have hlim1 := hS1.wf.1
  have hout := hRS.out
  have hio2 := hRS.io2
  by_cases hrR : r < R + 1
  case neg =>
    obtain rfl : r = R + 1 := by omega
    repeat' (first | (exfalso; omega) | refine zA ?_ | refine zB ?_ | refine zC ?_ | refine zD ?_ | refine zE ?_ | refine zF ?_ | refine zG ?_ | refine zH ?_ | refine zI ?_ | refine zJ ?_ | refine zK rfl ?_ | refine zL ?_ | refine zM ?_ | refine zN ?_ | refine zO ?_ | refine zP rfl ?_ | refine zQ ?_ | ((first | refine zR ?_ | refine zS ?_ | refine zT ?_ | skip); intro K k; simp (disch := (first | (simp only [yD2, beq_self_eq_true, Nat.reduceLT, Nat.reduceAdd]; done) | ((fail_if_success (apply Bool.eq_iff_iff.2)); first | omega | (simp only [yD2, beq_self_eq_true, Nat.reduceLT, Nat.reduceAdd] <;> omega)) | fail)) only [↓yS, yT, ↓reduceIte, Nat.reduceEqDiff, Nat.reduceAdd, Nat.reduceMul, reduceCtorEq, Int.reduceToNat, g36, f0, f3, f4, f20, f21]; refine yC (k _ _ ?_); clear k K) | ((first | refine zU ?_ | refine zV ?_ | refine zW ?_); intro A B C D a b c d; simp only [↓yG, Nat.reduceEqDiff, ↓reduceIte, g36, f0, f3, f4, f20, f21]; (first | refine zX (a ?_) | refine zY (b ?_) | refine zZ (fun hc => c ?_) (fun hc => d ?_)) <;> clear a b c d A B C D <;> try simp only [yL] at hc) | (refine yA ?_; intro A a; simp only [↓yG, Nat.reduceEqDiff, ↓reduceIte, g36, f0, f3, f4, f20, f21]; refine yB (a ?_); clear a A) | (refine yD ?_; simp only [gresults, ↓yG, Nat.reduceEqDiff, ↓reduceIte, Option.bind_some, gld_1, gld_n, g36, f0, f3, f4, f20, f21]; refine ⟨_, rfl, ?_⟩; simp only [gone]))
    exact hPost _ _ ⟨hRS.tbl (by omega), hS1⟩
  have hset : gset (tab (R + 1) ids (n + 1)) r (.slice (some ⟨H2.len, 0, none⟩) (n + 1) (n + 1 + 1)) = some (tab (R + 1) (ids ++ [H2.len]) (n + 1)) := by
    rw [gset_ok (by rw [tab_len]; exact hrR) flatV_sl, ← hids]
    exact congrArg some (tab_snoc (by omega))
  have hget : (tab (R + 1) (ids ++ [H2.len]) (n + 1))[r]? = some (.slice (some ⟨H2.len, 0, none⟩) (n + 1) (n + 1 + 1)) := by
    rw [tab_get hrR (by simp; omega), ← hids, snoc_last]
  repeat' (first | (exfalso; omega) | refine zA ?_ | refine zB ?_ | refine zC ?_ | refine zD ?_ | refine zE ?_ | refine zF ?_ | refine zG ?_ | refine zH ?_ | refine zI ?_ | refine zJ ?_ | refine zK rfl ?_ | refine zL ?_ | refine zM ?_ | refine zN ?_ | refine zO ?_ | refine zP rfl ?_ | refine zQ ?_ | ((first | refine zR ?_ | refine zS ?_ | refine zT ?_ | skip); intro K k; simp (disch := (first | (simp only [yD2, beq_self_eq_true, Nat.reduceLT, Nat.reduceAdd]; done) | ((fail_if_success (apply Bool.eq_iff_iff.2)); first | omega | (simp only [yD2, beq_self_eq_true, Nat.reduceLT, Nat.reduceAdd] <;> omega)) | fail)) only [↓yS, yT, ↓reduceIte, Nat.reduceEqDiff, Nat.reduceAdd, Nat.reduceMul, reduceCtorEq, Int.reduceToNat, g36, f0, f3, f4, f20, f21, hout, hset, hget, hnN]; refine yC (k _ _ ?_); clear k K) | ((first | refine zU ?_ | refine zV ?_ | refine zW ?_); intro A B C D a b c d; simp only [↓yG, Nat.reduceEqDiff, ↓reduceIte, g36, f0, f3, f4, f20, f21, hout, hset, hget, hnN]; (first | refine zX (a ?_) | refine zY (b ?_) | refine zZ (fun hc => c ?_) (fun hc => d ?_)) <;> clear a b c d A B C D <;> try simp only [yL] at hc) | (refine yA ?_; intro A a; simp only [↓yG, Nat.reduceEqDiff, ↓reduceIte, g36, f0, f3, f4, f20, f21, hout, hset, hget, hnN]; refine yB (a ?_); clear a A) | (refine yD ?_; simp only [gresults, ↓yG, Nat.reduceEqDiff, ↓reduceIte, Option.bind_some, gld_1, gld_n, g36, f0, f3, f4, f20, f21, hout, hset, hget, hnN]; refine ⟨_, rfl, ?_⟩; simp only [gone]))
  have hRS2 := hRS.snoc (by omega) (List.replicate (n + 1) 0)
  generalize (H2.add (some (.cells (ints .i64 (List.replicate (n + 1) 0)) 1 true))).put H1.len (.cells (tab (R + 1) (ids ++ [H2.len]) (n + 1)) 1 true) = H3 at hRS2 ⊢
  have hids2 : (ids ++ [H2.len]).length = r + 1 := by simp [hids]
  have hx : H2.len = (ids ++ [H2.len])[r]! := by rw [← hids, snoc_last]
  generalize hi2 : ids ++ [H2.len] = ids2 at *
  rw [hids] at hRS2
  generalize hF : (fun k => if r = 0 then (-1 : Int) else p.D.E r k) = F
  have hFr : r ≠ 0 → ∀ k, F k = p.D.E r k := fun h k => by rw [← hF]; exact if_neg h
  have hF0 : r = 0 → ∀ k, F k = -1 := fun h k => by rw [← hF]; exact if_pos h
  refine GW_loop (fun k fr H3 => ∃ (i : Nat), i ≤ n + 1 ∧ k = n + 1 - i ∧ fr.get 0 = some (.pointer (some ⟨id, 0, none⟩)) ∧ fr.get 3 = some (.int .i64 n) ∧ fr.get 4 = some (.slice (some ⟨H1.len, 0, none⟩) (R + 1) (R + 1 + 1)) ∧ fr.get 5 = some (.int .i64 r) ∧ fr.get 20 = some (.int .i64 (R + 1 : Nat)) ∧ fr.get 21 = some (.int .i64 r) ∧ fr.get 34 = some (.int .i64 (n + 1 : Nat)) ∧ fr.get 35 = some (.int .i64 i) ∧ RS H1 H3 H1.len (R + 1) (n + 1) ids2 (updR (fun k => (List.range (n + 1)).map (p.D.E k)) r (mkF (n + 1) i F))) ?_ (n + 1) ?_
  rotate_left
  · refine ⟨0, by omega, by omega, ?_⟩
    simp only [↓yG, Nat.reduceEqDiff, ↓reduceIte, Int.natCast_add, Int.cast_ofNat_Int, Int.natCast_zero, true_and, and_true, Option.some.injEq, Value.int.injEq, f0, f3, f4, f20, f21]
    rw [mkF_zero]; exact hRS2
  clear hRS2 H3 hset hget hx hout hio2 hlim1
  rintro k fr2 H3 ⟨i, hi, rfl, i0, i3, i4, i5, i20, i21, i34, i35, hRS3⟩ J2 hJ2
  have hS3 := hRS3.same
  have hlim3 := hS3.wf.1
  have hrdo := fun o => mine_rd (o := o) hRS3.out
  have hrow := hRS3.row r (by omega)
  rw [updR_same] at hrow
  obtain ⟨hr_1, hr_2, hr_3⟩ := hRS3.id r (by omega)
  have htab : (tab (R + 1) ids2 (n + 1))[r]? = some (.slice (some ⟨ids2[r]!, 0, none⟩) (n + 1) (n + 1 + 1)) := tab_get hrR (by omega)
  have htab0 : r = 0 → (tab (R + 1) ids2 (n + 1))[0]? = some (.slice (some ⟨ids2[r]!, 0, none⟩) (n + 1) (n + 1 + 1)) := fun h => by subst h; exact htab
  have hml := mkF_len (n + 1) i F
  by_cases hi1 : i < n + 1
  case neg =>
    obtain rfl : i = n + 1 := by omega
    by_cases hr0 : r = 0
    · subst hr0
      repeat' (first | (exfalso; omega) | refine zA ?_ | refine zB ?_ | refine zC ?_ | refine zD ?_ | refine zE ?_ | refine zF ?_ | refine zG ?_ | refine zH ?_ | refine zI ?_ | refine zJ ?_ | refine zK rfl ?_ | refine zL ?_ | refine zM ?_ | refine zN ?_ | refine zO ?_ | refine zP rfl ?_ | refine zQ ?_ | ((first | refine zR ?_ | refine zS ?_ | refine zT ?_ | skip); intro K k; simp (disch := (first | (simp only [yD2, beq_self_eq_true, Nat.reduceLT, Nat.reduceAdd]; done) | ((fail_if_success (apply Bool.eq_iff_iff.2)); first | omega | (simp only [yD2, beq_self_eq_true, Nat.reduceLT, Nat.reduceAdd] <;> omega)) | fail)) only [↓yS, yT, ↓reduceIte, Nat.reduceEqDiff, Nat.reduceAdd, Nat.reduceMul, reduceCtorEq, Int.reduceToNat, g36, i0, i3, i4, i5, i20, i21, i34, i35, hrdo, hrow, htab, htab0]; refine yC (k _ _ ?_); clear k K) | ((first | refine zU ?_ | refine zV ?_ | refine zW ?_); intro A B C D a b c d; simp only [↓yG, Nat.reduceEqDiff, ↓reduceIte, g36, i0, i3, i4, i5, i20, i21, i34, i35, hrdo, hrow, htab, htab0]; (first | refine zX (a ?_) | refine zY (b ?_) | refine zZ (fun hc => c ?_) (fun hc => d ?_)) <;> clear a b c d A B C D <;> try simp only [yL] at hc) | (refine yA ?_; intro A a; simp only [↓yG, Nat.reduceEqDiff, ↓reduceIte, g36, i0, i3, i4, i5, i20, i21, i34, i35, hrdo, hrow, htab, htab0]; refine yB (a ?_); clear a A) | (refine yD ?_; simp only [gresults, ↓yG, Nat.reduceEqDiff, ↓reduceIte, Option.bind_some, gld_1, gld_n, g36, i0, i3, i4, i5, i20, i21, i34, i35, hrdo, hrow, htab, htab0]; refine ⟨_, rfl, ?_⟩; simp only [gone]))
      refine hJ _ _ ⟨R + 1 - (0 + 1), by omega, 0 + 1, ids2, by omega, rfl, by omega, ?_⟩
      simp only [↓yG, Nat.reduceEqDiff, ↓reduceIte, Int.natCast_add, Int.cast_ofNat_Int, Int.natCast_zero, true_and, and_true, Option.some.injEq, Value.int.injEq, i0, i3, i4, i20]
      have := hRS3.set_ (k := 0) (by omega) ((mkF (n + 1) (n + 1) F).set n 0)
      refine this.congr fun k hk => ?_
      obtain rfl : k = 0 := by omega
      rw [updR_same, mkF_all]
      refine List.ext_getElem? fun q => ?_
      rw [List.getElem?_set]
      by_cases hq : q < n + 1
      · rw [rowE_at hq, rowE_at hq, List.length_map, List.length_range, hF0 rfl]
        have : p.D.E 0 q = if q = n then 0 else -1 := by rw [DD.E, hD]
        rw [this]
        by_cases e : n = q
        · rw [if_pos e, if_pos (by omega), if_pos e.symm]
        · rw [if_neg e, if_neg (fun h => e h.symm)]
      · rw [if_neg (by omega), List.getElem?_eq_none (by simp; omega), List.getElem?_eq_none (by simp; omega)]
    · repeat' (first | (exfalso; omega) | refine zA ?_ | refine zB ?_ | refine zC ?_ | refine zD ?_ | refine zE ?_ | refine zF ?_ | refine zG ?_ | refine zH ?_ | refine zI ?_ | refine zJ ?_ | refine zK rfl ?_ | refine zL ?_ | refine zM ?_ | refine zN ?_ | refine zO ?_ | refine zP rfl ?_ | refine zQ ?_ | ((first | refine zR ?_ | refine zS ?_ | refine zT ?_ | skip); intro K k; simp (disch := (first | (simp only [yD2, beq_self_eq_true, Nat.reduceLT, Nat.reduceAdd]; done) | ((fail_if_success (apply Bool.eq_iff_iff.2)); first | omega | (simp only [yD2, beq_self_eq_true, Nat.reduceLT, Nat.reduceAdd] <;> omega)) | fail)) only [↓yS, yT, ↓reduceIte, Nat.reduceEqDiff, Nat.reduceAdd, Nat.reduceMul, reduceCtorEq, Int.reduceToNat, g36, i0, i3, i4, i5, i20, i21, i34, i35, hrdo, hrow, htab, htab0]; refine yC (k _ _ ?_); clear k K) | ((first | refine zU ?_ | refine zV ?_ | refine zW ?_); intro A B C D a b c d; simp only [↓yG, Nat.reduceEqDiff, ↓reduceIte, g36, i0, i3, i4, i5, i20, i21, i34, i35, hrdo, hrow, htab, htab0]; (first | refine zX (a ?_) | refine zY (b ?_) | refine zZ (fun hc => c ?_) (fun hc => d ?_)) <;> clear a b c d A B C D <;> try simp only [yL] at hc) | (refine yA ?_; intro A a; simp only [↓yG, Nat.reduceEqDiff, ↓reduceIte, g36, i0, i3, i4, i5, i20, i21, i34, i35, hrdo, hrow, htab, htab0]; refine yB (a ?_); clear a A) | (refine yD ?_; simp only [gresults, ↓yG, Nat.reduceEqDiff, ↓reduceIte, Option.bind_some, gld_1, gld_n, g36, i0, i3, i4, i5, i20, i21, i34, i35, hrdo, hrow, htab, htab0]; refine ⟨_, rfl, ?_⟩; simp only [gone]))
      refine hJ _ _ ⟨R + 1 - (r + 1), by omega, r + 1, ids2, by omega, rfl, by omega, ?_⟩
      simp only [↓yG, Nat.reduceEqDiff, ↓reduceIte, Int.natCast_add, Int.cast_ofNat_Int, Int.natCast_zero, true_and, and_true, Option.some.injEq, Value.int.injEq, i0, i3, i4, i20]
      refine hRS3.congr fun k hk => ?_
      unfold updR
      split
      · rename_i h
        subst h
        rw [mkF_all]
        exact List.map_congr_left fun q _ => hFr hr0 q
      · rfl
  by_cases hr0 : r = 0
  · subst hr0
    repeat' (first | (exfalso; omega) | refine zA ?_ | refine zB ?_ | refine zC ?_ | refine zD ?_ | refine zE ?_ | refine zF ?_ | refine zG ?_ | refine zH ?_ | refine zI ?_ | refine zJ ?_ | refine zK rfl ?_ | refine zL ?_ | refine zM ?_ | refine zN ?_ | refine zO ?_ | refine zP rfl ?_ | refine zQ ?_ | ((first | refine zR ?_ | refine zS ?_ | refine zT ?_ | skip); intro K k; simp (disch := (first | (simp only [yD2, beq_self_eq_true, Nat.reduceLT, Nat.reduceAdd]; done) | ((fail_if_success (apply Bool.eq_iff_iff.2)); first | omega | (simp only [yD2, beq_self_eq_true, Nat.reduceLT, Nat.reduceAdd] <;> omega)) | fail)) only [↓yS, yT, ↓reduceIte, Nat.reduceEqDiff, Nat.reduceAdd, Nat.reduceMul, reduceCtorEq, Int.reduceToNat, g36, i0, i3, i4, i5, i20, i21, i34, i35, hrdo, hrow, htab, htab0]; refine yC (k _ _ ?_); clear k K) | ((first | refine zU ?_ | refine zV ?_ | refine zW ?_); intro A B C D a b c d; simp only [↓yG, Nat.reduceEqDiff, ↓reduceIte, g36, i0, i3, i4, i5, i20, i21, i34, i35, hrdo, hrow, htab, htab0]; (first | refine zX (a ?_) | refine zY (b ?_) | refine zZ (fun hc => c ?_) (fun hc => d ?_)) <;> clear a b c d A B C D <;> try simp only [yL] at hc) | (refine yA ?_; intro A a; simp only [↓yG, Nat.reduceEqDiff, ↓reduceIte, g36, i0, i3, i4, i5, i20, i21, i34, i35, hrdo, hrow, htab, htab0]; refine yB (a ?_); clear a A) | (refine yD ?_; simp only [gresults, ↓yG, Nat.reduceEqDiff, ↓reduceIte, Option.bind_some, gld_1, gld_n, g36, i0, i3, i4, i5, i20, i21, i34, i35, hrdo, hrow, htab, htab0]; refine ⟨_, rfl, ?_⟩; simp only [gone]))
    refine hJ2 _ _ ⟨n + 1 - (i + 1), by omega, i + 1, by omega, rfl, ?_⟩
    simp only [↓yG, Nat.reduceEqDiff, ↓reduceIte, Int.natCast_add, Int.cast_ofNat_Int, Int.natCast_zero, true_and, and_true, Option.some.injEq, Value.int.injEq, i0, i3, i4, i5, i20, i21, i34]
    have := hRS3.set_ (k := 0) (by omega) (mkF (n + 1) (i + 1) F)
    rw [← mkF_set hi1, hF0 rfl i] at this ⊢
    refine this.congr fun k hk => ?_
    unfold updR; split <;> rfl
  obtain ⟨q, rfl⟩ : ∃ q, r = q + 1 := ⟨r - 1, by omega⟩
  have hq1 : (((q + 1 : Nat) : Int) - 1).toNat = q := by omega
  repeat' (first | (exfalso; omega) | refine zA ?_ | refine zB ?_ | refine zC ?_ | refine zD ?_ | refine zE ?_ | refine zF ?_ | refine zG ?_ | refine zH ?_ | refine zI ?_ | refine zJ ?_ | refine zK rfl ?_ | refine zL ?_ | refine zM ?_ | refine zN ?_ | refine zO ?_ | refine zP rfl ?_ | refine zQ ?_ | ((first | refine zR ?_ | refine zS ?_ | refine zT ?_ | skip); intro K k; simp (disch := (first | (simp only [yD2, beq_self_eq_true, Nat.reduceLT, Nat.reduceAdd]; done) | ((fail_if_success (apply Bool.eq_iff_iff.2)); first | omega | (simp only [yD2, beq_self_eq_true, Nat.reduceLT, Nat.reduceAdd] <;> omega)) | fail)) only [↓yS, yT, ↓reduceIte, Nat.reduceEqDiff, Nat.reduceAdd, Nat.reduceMul, reduceCtorEq, Int.reduceToNat, g36, i0, i3, i4, i5, i20, i21, i34, i35, hrdo, hrow, htab, htab0]; refine yC (k _ _ ?_); clear k K) | ((first | refine zU ?_ | refine zV ?_ | refine zW ?_); intro A B C D a b c d; simp only [↓yG, Nat.reduceEqDiff, ↓reduceIte, g36, i0, i3, i4, i5, i20, i21, i34, i35, hrdo, hrow, htab, htab0]; (first | refine zX (a ?_) | refine zY (b ?_) | refine zZ (fun hc => c ?_) (fun hc => d ?_)) <;> clear a b c d A B C D <;> try simp only [yL] at hc) | (refine yA ?_; intro A a; simp only [↓yG, Nat.reduceEqDiff, ↓reduceIte, g36, i0, i3, i4, i5, i20, i21, i34, i35, hrdo, hrow, htab, htab0]; refine yB (a ?_); clear a A) | (refine yD ?_; simp only [gresults, ↓yG, Nat.reduceEqDiff, ↓reduceIte, Option.bind_some, gld_1, gld_n, g36, i0, i3, i4, i5, i20, i21, i34, i35, hrdo, hrow, htab, htab0]; refine ⟨_, rfl, ?_⟩; simp only [gone]))
  have hRS4 := hRS3.set_ (k := q + 1) (by omega) ((mkF (n + 1) i F).set i (-1))
  generalize H3.put ids2[q + 1]! (.cells (ints .i64 ((mkF (n + 1) i F).set i (-1))) 1 true) = H4 at *
  have hbst : F i = bstF p.D (p.D.E q) i (n - i) (i + 1) (-1) := by rw [hFr (by omega), DD.E, bst, hD]
  have hEq := fun j => E_ge hG q j
  have hEub := fun j => E_ub hG q j
  have hi9 : i ≤ n := by omega
  refine GW_loop (fun k fr H5 => ∃ (j : Nat) (acc : Int), i < j ∧ j ≤ n + 1 ∧ k = n + 1 - j ∧ fr.get 0 = some (.pointer (some ⟨id, 0, none⟩)) ∧ fr.get 3 = some (.int .i64 n) ∧ fr.get 4 = some (.slice (some ⟨H1.len, 0, none⟩) (R + 1) (R + 1 + 1)) ∧ fr.get 5 = some (.int .i64 (q + 1 : Nat)) ∧ fr.get 6 = some (.int .i64 i) ∧ fr.get 7 = some (.int .i64 j) ∧ fr.get 20 = some (.int .i64 (R + 1 : Nat)) ∧ fr.get 21 = some (.int .i64 (q + 1 : Nat)) ∧ fr.get 34 = some (.int .i64 (n + 1 : Nat)) ∧ fr.get 35 = some (.int .i64 i) ∧ RS H1 H5 H1.len (R + 1) (n + 1) ids2 (updR (fun k => (List.range (n + 1)).map (p.D.E k)) (q + 1) ((mkF (n + 1) i F).set i acc)) ∧ F i = bstF p.D (p.D.E q) i (n + 1 - j) j acc) ?_ (n - i) ?_
  rotate_left
  · refine ⟨i + 1, -1, by omega, by omega, by omega, ?_⟩
    simp only [↓yG, Nat.reduceEqDiff, ↓reduceIte, Int.natCast_add, Int.cast_ofNat_Int, Int.natCast_zero, true_and, and_true, Option.some.injEq, Value.int.injEq, i0, i3, i4, i5, i20, i21, i34, i35]
    refine ⟨hRS4.congr fun k hk => by unfold updR; split <;> rfl, by rw [hbst, show n + 1 - (i + 1) = n - i by omega]⟩
  clear hRS3 hRS4 hrow hrdo H4 hS3 hlim3 hr_1 hr_2 hr_3 hbst H3
  rintro k fr3 H5 ⟨j, acc, hij, hj, rfl, j0, j3, j4, j5, j6, j7, j20, j21, j34, j35, hRS5, hacc⟩ J3 hJ3
  have hS5 := hRS5.same
  have hlim5 := hS5.wf.1
  have hrdo := fun o => mine_rd (o := o) hRS5.out
  have hrow := hRS5.row (q + 1) (by omega)
  rw [updR_same] at hrow
  have hrdr := fun o => mine_rd (o := o) hrow
  have hrq := hRS5.row q (by omega)
  rw [updR_ne _ _ (by omega)] at hrq
  have hrdq := fun o => mine_rd (o := o) hrq
  obtain ⟨hr_1, hr_2, hr_3⟩ := hRS5.id (q + 1) (by omega)
  have htq : (tab (R + 1) ids2 (n + 1))[q]? = some (.slice (some ⟨ids2[q]!, 0, none⟩) (n + 1) (n + 1 + 1)) := tab_get (by omega) (by omega)
  have hsa : (ints .i64 ((mkF (n + 1) i F).set i acc))[i]? = some (.int .i64 acc) := by
    rw [ints_get, set_at (by rw [hml]; omega)]; rfl
  by_cases hj1 : j < n + 1
  case neg =>
    obtain rfl : j = n + 1 := by omega
    rw [Nat.sub_self, bstF] at hacc
    rw [← hacc, mkF_set hi1] at hRS5
    repeat' (first | (exfalso; omega) | refine zA ?_ | refine zB ?_ | refine zC ?_ | refine zD ?_ | refine zE ?_ | refine zF ?_ | refine zG ?_ | refine zH ?_ | refine zI ?_ | refine zJ ?_ | refine zK rfl ?_ | refine zL ?_ | refine zM ?_ | refine zN ?_ | refine zO ?_ | refine zP rfl ?_ | refine zQ ?_ | ((first | refine zR ?_ | refine zS ?_ | refine zT ?_ | skip); intro K k; simp (disch := (first | (simp only [yD2, beq_self_eq_true, Nat.reduceLT, Nat.reduceAdd]; done) | ((fail_if_success (apply Bool.eq_iff_iff.2)); first | omega | (simp only [yD2, beq_self_eq_true, Nat.reduceLT, Nat.reduceAdd] <;> omega)) | fail)) only [↓yS, yT, ↓reduceIte, Nat.reduceEqDiff, Nat.reduceAdd, Nat.reduceMul, reduceCtorEq, Int.reduceToNat, g36, j0, j3, j4, j5, j6, j7, j20, j21, j34, j35]; refine yC (k _ _ ?_); clear k K) | ((first | refine zU ?_ | refine zV ?_ | refine zW ?_); intro A B C D a b c d; simp only [↓yG, Nat.reduceEqDiff, ↓reduceIte, g36, j0, j3, j4, j5, j6, j7, j20, j21, j34, j35]; (first | refine zX (a ?_) | refine zY (b ?_) | refine zZ (fun hc => c ?_) (fun hc => d ?_)) <;> clear a b c d A B C D <;> try simp only [yL] at hc) | (refine yA ?_; intro A a; simp only [↓yG, Nat.reduceEqDiff, ↓reduceIte, g36, j0, j3, j4, j5, j6, j7, j20, j21, j34, j35]; refine yB (a ?_); clear a A) | (refine yD ?_; simp only [gresults, ↓yG, Nat.reduceEqDiff, ↓reduceIte, Option.bind_some, gld_1, gld_n, g36, j0, j3, j4, j5, j6, j7, j20, j21, j34, j35]; refine ⟨_, rfl, ?_⟩; simp only [gone]))
    refine hJ2 _ _ ⟨n + 1 - (i + 1), by omega, i + 1, by omega, rfl, ?_⟩
    simp only [↓yG, Nat.reduceEqDiff, ↓reduceIte, Int.natCast_add, Int.cast_ofNat_Int, Int.natCast_zero, true_and, and_true, Option.some.injEq, Value.int.injEq, j0, j3, j4, j5, j20, j21, j34]
    exact hRS5
  have hEj : (ints .i64 ((List.range (n + 1)).map (p.D.E q)))[j]? = some (.int .i64 (p.D.E q j)) := by
    rw [ints_get, rowE_at (by omega)]; rfl
  have hEqj := hEq j
  have hEubj := hEub j
  have hk5 := hk.later hw hS5
  rw [show n + 1 - j = (n - j) + 1 by omega, bstF] at hacc
  repeat' (first | (exfalso; omega) | refine zA ?_ | refine zB ?_ | refine zC ?_ | refine zD ?_ | refine zE ?_ | refine zF ?_ | refine zG ?_ | refine zH ?_ | refine zI ?_ | refine zJ ?_ | refine zK rfl ?_ | refine zL ?_ | refine zM ?_ | refine zN ?_ | refine zO ?_ | refine zP rfl ?_ | refine zQ ?_ | ((first | refine zR ?_ | refine zS ?_ | refine zT ?_ | skip); intro K k; simp (disch := (first | (simp only [yD2, beq_self_eq_true, Nat.reduceLT, Nat.reduceAdd]; done) | ((fail_if_success (apply Bool.eq_iff_iff.2)); first | omega | (simp only [yD2, beq_self_eq_true, Nat.reduceLT, Nat.reduceAdd] <;> omega)) | fail)) only [↓yS, yT, ↓reduceIte, Nat.reduceEqDiff, Nat.reduceAdd, Nat.reduceMul, reduceCtorEq, Int.reduceToNat, g36, j0, j3, j4, j5, j6, j7, j20, j21, j34, j35]; refine yC (k _ _ ?_); clear k K) | ((first | refine zU ?_ | refine zV ?_ | refine zW ?_); intro A B C D a b c d; simp only [↓yG, Nat.reduceEqDiff, ↓reduceIte, g36, j0, j3, j4, j5, j6, j7, j20, j21, j34, j35]; (first | refine zX (a ?_) | refine zY (b ?_) | refine zZ (fun hc => c ?_) (fun hc => d ?_)) <;> clear a b c d A B C D <;> try simp only [yL] at hc) | (refine yA ?_; intro A a; simp only [↓yG, Nat.reduceEqDiff, ↓reduceIte, g36, j0, j3, j4, j5, j6, j7, j20, j21, j34, j35]; refine yB (a ?_); clear a A) | (refine yD ?_; simp only [gresults, ↓yG, Nat.reduceEqDiff, ↓reduceIte, Option.bind_some, gld_1, gld_n, g36, j0, j3, j4, j5, j6, j7, j20, j21, j34, j35]; refine ⟨_, rfl, ?_⟩; simp only [gone]))
  intro K' hK'; refine G1_call (by simp only [gtarget, ↓GArg.ev, ↓evs, ↓Tr.get_set, Nat.reduceEqDiff, if_true, if_false, ↓reduceIte, Option.map_some, j0, j3, j4, j5, j6, j7, j20, j21, j34, j35]; rfl) (fits_ok (i := i) (j := j) (hsub _ hS5) hk5 (by rw [hnn]; omega) (by rw [hnn]; omega)) fun r4 H6 hq => hK' _ _ ?_
  obtain ⟨rfl, rfl⟩ := hq
  cases hfit : p.fit i j with
  | false =>
    rw [if_neg (by show ¬ p.fit i j = true; rw [hfit]; decide)] at hacc
    rw [← hacc, mkF_set hi1] at hRS5
    repeat' (first | (exfalso; omega) | refine zA ?_ | refine zB ?_ | refine zC ?_ | refine zD ?_ | refine zE ?_ | refine zF ?_ | refine zG ?_ | refine zH ?_ | refine zI ?_ | refine zJ ?_ | refine zK rfl ?_ | refine zL ?_ | refine zM ?_ | refine zN ?_ | refine zO ?_ | refine zP rfl ?_ | refine zQ ?_ | ((first | refine zR ?_ | refine zS ?_ | refine zT ?_ | skip); intro K k; simp (disch := (first | (simp only [yD2, beq_self_eq_true, Nat.reduceLT, Nat.reduceAdd]; done) | ((fail_if_success (apply Bool.eq_iff_iff.2)); first | omega | (simp only [yD2, beq_self_eq_true, Nat.reduceLT, Nat.reduceAdd] <;> omega)) | fail)) only [↓yS, yT, ↓reduceIte, Nat.reduceEqDiff, Nat.reduceAdd, Nat.reduceMul, reduceCtorEq, Int.reduceToNat, g36, j0, j3, j4, j5, j6, j7, j20, j21, j34, j35]; refine yC (k _ _ ?_); clear k K) | ((first | refine zU ?_ | refine zV ?_ | refine zW ?_); intro A B C D a b c d; simp only [↓yG, Nat.reduceEqDiff, ↓reduceIte, g36, j0, j3, j4, j5, j6, j7, j20, j21, j34, j35]; (first | refine zX (a ?_) | refine zY (b ?_) | refine zZ (fun hc => c ?_) (fun hc => d ?_)) <;> clear a b c d A B C D <;> try simp only [yL] at hc) | (refine yA ?_; intro A a; simp only [↓yG, Nat.reduceEqDiff, ↓reduceIte, g36, j0, j3, j4, j5, j6, j7, j20, j21, j34, j35]; refine yB (a ?_); clear a A) | (refine yD ?_; simp only [gresults, ↓yG, Nat.reduceEqDiff, ↓reduceIte, Option.bind_some, gld_1, gld_n, g36, j0, j3, j4, j5, j6, j7, j20, j21, j34, j35]; refine ⟨_, rfl, ?_⟩; simp only [gone]))
    refine hJ2 _ _ ⟨n + 1 - (i + 1), by omega, i + 1, by omega, rfl, ?_⟩
    simp only [↓yG, Nat.reduceEqDiff, ↓reduceIte, Int.natCast_add, Int.cast_ofNat_Int, Int.natCast_zero, true_and, and_true, Option.some.injEq, Value.int.injEq, j0, j3, j4, j5, j20, j21, j34]
    exact hRS5
  | true =>
    have hok : p.D.ok i j := ⟨hij, by rw [hD]; omega, hfit⟩
    have hc1 : 0 ≤ p.row i j := hG.pos _ _ hok
    have hc2 : p.row i j ≤ 40000000 := hG.ub _ _ hok
    rw [if_pos (show p.D.fit i j = true from hfit)] at hacc
    unfold bst1 at hacc
    have hrow' : p.D.row i j = p.row i j := rfl
    rw [hrow'] at hacc
    generalize hE1 : p.D.E q j = ej at *
    by_cases hm1 : ej = -1
    · rw [if_pos hm1] at hacc
      have hm1' := eq_true hm1
      repeat' (first | (exfalso; omega) | refine zA ?_ | refine zB ?_ | refine zC ?_ | refine zD ?_ | refine zE ?_ | refine zF ?_ | refine zG ?_ | refine zH ?_ | refine zI ?_ | refine zJ ?_ | refine zK rfl ?_ | refine zL ?_ | refine zM ?_ | refine zN ?_ | refine zO ?_ | refine zP rfl ?_ | refine zQ ?_ | ((first | refine zR ?_ | refine zS ?_ | refine zT ?_ | skip); intro K k; simp (disch := (first | (simp only [yD2, beq_self_eq_true, Nat.reduceLT, Nat.reduceAdd]; done) | ((fail_if_success (apply Bool.eq_iff_iff.2)); first | omega | (simp only [yD2, beq_self_eq_true, Nat.reduceLT, Nat.reduceAdd] <;> omega)) | fail)) only [↓yS, yT, ↓reduceIte, Nat.reduceEqDiff, Nat.reduceAdd, Nat.reduceMul, reduceCtorEq, Int.reduceToNat, g36, j0, j3, j4, j5, j6, j7, j20, j21, j34, j35, hrdo, hrdq, htq, hEj, hq1]; refine yC (k _ _ ?_); clear k K) | ((first | refine zU ?_ | refine zV ?_ | refine zW ?_); intro A B C D a b c d; simp only [↓yG, Nat.reduceEqDiff, ↓reduceIte, g36, j0, j3, j4, j5, j6, j7, j20, j21, j34, j35, hrdo, hrdq, htq, hEj, hq1]; (first | refine zX (a ?_) | refine zY (b ?_) | refine zZ (fun hc => c ?_) (fun hc => d ?_)) <;> clear a b c d A B C D <;> try simp only [yL] at hc) | (refine yA ?_; intro A a; simp only [↓yG, Nat.reduceEqDiff, ↓reduceIte, g36, j0, j3, j4, j5, j6, j7, j20, j21, j34, j35, hrdo, hrdq, htq, hEj, hq1]; refine yB (a ?_); clear a A) | (refine yD ?_; simp only [gresults, ↓yG, Nat.reduceEqDiff, ↓reduceIte, Option.bind_some, gld_1, gld_n, g36, j0, j3, j4, j5, j6, j7, j20, j21, j34, j35, hrdo, hrdq, htq, hEj, hq1]; refine ⟨_, rfl, ?_⟩; simp only [gone]))
      refine hJ3 _ _ ⟨n + 1 - (j + 1), by omega, j + 1, acc, by omega, by omega, rfl, ?_⟩
      simp only [↓yG, Nat.reduceEqDiff, ↓reduceIte, Int.natCast_add, Int.cast_ofNat_Int, Int.natCast_zero, true_and, and_true, Option.some.injEq, Value.int.injEq, j0, j3, j4, j5, j6, j20, j21, j34, j35]
      exact ⟨hRS5, by rw [hacc, show n + 1 - (j + 1) = n - j by omega]⟩
    · rw [if_neg hm1] at hacc
      repeat' (first | (exfalso; omega) | refine zA ?_ | refine zB ?_ | refine zC ?_ | refine zD ?_ | refine zE ?_ | refine zF ?_ | refine zG ?_ | refine zH ?_ | refine zI ?_ | refine zJ ?_ | refine zK rfl ?_ | refine zL ?_ | refine zM ?_ | refine zN ?_ | refine zO ?_ | refine zP rfl ?_ | refine zQ ?_ | ((first | refine zR ?_ | refine zS ?_ | refine zT ?_ | skip); intro K k; simp (disch := (first | (simp only [yD2, beq_self_eq_true, Nat.reduceLT, Nat.reduceAdd]; done) | ((fail_if_success (apply Bool.eq_iff_iff.2)); first | omega | (simp only [yD2, beq_self_eq_true, Nat.reduceLT, Nat.reduceAdd] <;> omega)) | fail)) only [↓yS, yT, ↓reduceIte, Nat.reduceEqDiff, Nat.reduceAdd, Nat.reduceMul, reduceCtorEq, Int.reduceToNat, g36, j0, j3, j4, j5, j6, j7, j20, j21, j34, j35, hrdo, hrdq, htq, hEj, hq1]; refine yC (k _ _ ?_); clear k K) | ((first | refine zU ?_ | refine zV ?_ | refine zW ?_); intro A B C D a b c d; simp only [↓yG, Nat.reduceEqDiff, ↓reduceIte, g36, j0, j3, j4, j5, j6, j7, j20, j21, j34, j35, hrdo, hrdq, htq, hEj, hq1]; (first | refine zX (a ?_) | refine zY (b ?_) | refine zZ (fun hc => c ?_) (fun hc => d ?_)) <;> clear a b c d A B C D <;> try simp only [yL] at hc) | (refine yA ?_; intro A a; simp only [↓yG, Nat.reduceEqDiff, ↓reduceIte, g36, j0, j3, j4, j5, j6, j7, j20, j21, j34, j35, hrdo, hrdq, htq, hEj, hq1]; refine yB (a ?_); clear a A) | (refine yD ?_; simp only [gresults, ↓yG, Nat.reduceEqDiff, ↓reduceIte, Option.bind_some, gld_1, gld_n, g36, j0, j3, j4, j5, j6, j7, j20, j21, j34, j35, hrdo, hrdq, htq, hEj, hq1]; refine ⟨_, rfl, ?_⟩; simp only [gone]))
      refine Gw_s fun K' hK' => G1_call (by simp only [gtarget, ↓GArg.ev, ↓evs, ↓Tr.get_set, Nat.reduceEqDiff, if_true, if_false, ↓reduceIte, Option.map_some, j0, j3, j4, j5, j6, j7, j20, j21, j34, j35]; rfl) (cost_ok (i := i) (j := j) hS5.wf (hsub _ hS5) hk5 (by rw [hnn]; omega) (by rw [hnn]; omega) (by omega)) fun r7 H7 hq => hK' _ _ ?_
      obtain ⟨rfl, hS7⟩ := hq
      have hRS7 := hRS5.later hS7
      have hrdo7 := fun o => mine_rd (o := o) hRS7.out
      have hrow7 := hRS7.row (q + 1) (by omega)
      rw [updR_same] at hrow7
      have hrdr7 := fun o => mine_rd (o := o) hrow7
      have hlim7 := hS7.wf.1
      generalize hcc : p.row i j + ej = cc at *
      by_cases ha1 : acc = -1
      · rw [if_pos (.inl ha1)] at hacc
        repeat' (first | (exfalso; omega) | refine zA ?_ | refine zB ?_ | refine zC ?_ | refine zD ?_ | refine zE ?_ | refine zF ?_ | refine zG ?_ | refine zH ?_ | refine zI ?_ | refine zJ ?_ | refine zK rfl ?_ | refine zL ?_ | refine zM ?_ | refine zN ?_ | refine zO ?_ | refine zP rfl ?_ | refine zQ ?_ | ((first | refine zR ?_ | refine zS ?_ | refine zT ?_ | skip); intro K k; simp (disch := (first | (simp only [yD2, beq_self_eq_true, Nat.reduceLT, Nat.reduceAdd]; done) | ((fail_if_success (apply Bool.eq_iff_iff.2)); first | omega | (simp only [yD2, beq_self_eq_true, Nat.reduceLT, Nat.reduceAdd] <;> omega)) | fail)) only [↓yS, yT, ↓reduceIte, Nat.reduceEqDiff, Nat.reduceAdd, Nat.reduceMul, reduceCtorEq, Int.reduceToNat, g36, j0, j3, j4, j5, j6, j7, j20, j21, j34, j35, hrdo7, hrdr7, hrow7, htab, hsa, hcc]; refine yC (k _ _ ?_); clear k K) | ((first | refine zU ?_ | refine zV ?_ | refine zW ?_); intro A B C D a b c d; simp only [↓yG, Nat.reduceEqDiff, ↓reduceIte, g36, j0, j3, j4, j5, j6, j7, j20, j21, j34, j35, hrdo7, hrdr7, hrow7, htab, hsa, hcc]; (first | refine zX (a ?_) | refine zY (b ?_) | refine zZ (fun hc => c ?_) (fun hc => d ?_)) <;> clear a b c d A B C D <;> try simp only [yL] at hc) | (refine yA ?_; intro A a; simp only [↓yG, Nat.reduceEqDiff, ↓reduceIte, g36, j0, j3, j4, j5, j6, j7, j20, j21, j34, j35, hrdo7, hrdr7, hrow7, htab, hsa, hcc]; refine yB (a ?_); clear a A) | (refine yD ?_; simp only [gresults, ↓yG, Nat.reduceEqDiff, ↓reduceIte, Option.bind_some, gld_1, gld_n, g36, j0, j3, j4, j5, j6, j7, j20, j21, j34, j35, hrdo7, hrdr7, hrow7, htab, hsa, hcc]; refine ⟨_, rfl, ?_⟩; simp only [gone]))
        refine hJ3 _ _ ⟨n + 1 - (j + 1), by omega, j + 1, cc, by omega, by omega, rfl, ?_⟩
        simp only [↓yG, Nat.reduceEqDiff, ↓reduceIte, Int.natCast_add, Int.cast_ofNat_Int, Int.natCast_zero, true_and, and_true, Option.some.injEq, Value.int.injEq, j0, j3, j4, j5, j6, j20, j21, j34, j35]
        have := hRS7.set_ (k := q + 1) (by omega) ((mkF (n + 1) i F).set i cc)
        rw [set_twice]
        exact ⟨this.congr fun k hk => by unfold updR; split <;> rfl, by rw [hacc, show n + 1 - (j + 1) = n - j by omega]⟩
      · by_cases ha2 : cc < acc
        · rw [if_pos (.inr ha2)] at hacc
          repeat' (first | (exfalso; omega) | refine zA ?_ | refine zB ?_ | refine zC ?_ | refine zD ?_ | refine zE ?_ | refine zF ?_ | refine zG ?_ | refine zH ?_ | refine zI ?_ | refine zJ ?_ | refine zK rfl ?_ | refine zL ?_ | refine zM ?_ | refine zN ?_ | refine zO ?_ | refine zP rfl ?_ | refine zQ ?_ | ((first | refine zR ?_ | refine zS ?_ | refine zT ?_ | skip); intro K k; simp (disch := (first | (simp only [yD2, beq_self_eq_true, Nat.reduceLT, Nat.reduceAdd]; done) | ((fail_if_success (apply Bool.eq_iff_iff.2)); first | omega | (simp only [yD2, beq_self_eq_true, Nat.reduceLT, Nat.reduceAdd] <;> omega)) | fail)) only [↓yS, yT, ↓reduceIte, Nat.reduceEqDiff, Nat.reduceAdd, Nat.reduceMul, reduceCtorEq, Int.reduceToNat, g36, j0, j3, j4, j5, j6, j7, j20, j21, j34, j35, hrdo7, hrdr7, hrow7, htab, hsa, hcc]; refine yC (k _ _ ?_); clear k K) | ((first | refine zU ?_ | refine zV ?_ | refine zW ?_); intro A B C D a b c d; simp only [↓yG, Nat.reduceEqDiff, ↓reduceIte, g36, j0, j3, j4, j5, j6, j7, j20, j21, j34, j35, hrdo7, hrdr7, hrow7, htab, hsa, hcc]; (first | refine zX (a ?_) | refine zY (b ?_) | refine zZ (fun hc => c ?_) (fun hc => d ?_)) <;> clear a b c d A B C D <;> try simp only [yL] at hc) | (refine yA ?_; intro A a; simp only [↓yG, Nat.reduceEqDiff, ↓reduceIte, g36, j0, j3, j4, j5, j6, j7, j20, j21, j34, j35, hrdo7, hrdr7, hrow7, htab, hsa, hcc]; refine yB (a ?_); clear a A) | (refine yD ?_; simp only [gresults, ↓yG, Nat.reduceEqDiff, ↓reduceIte, Option.bind_some, gld_1, gld_n, g36, j0, j3, j4, j5, j6, j7, j20, j21, j34, j35, hrdo7, hrdr7, hrow7, htab, hsa, hcc]; refine ⟨_, rfl, ?_⟩; simp only [gone]))
          refine hJ3 _ _ ⟨n + 1 - (j + 1), by omega, j + 1, cc, by omega, by omega, rfl, ?_⟩
          simp only [↓yG, Nat.reduceEqDiff, ↓reduceIte, Int.natCast_add, Int.cast_ofNat_Int, Int.natCast_zero, true_and, and_true, Option.some.injEq, Value.int.injEq, j0, j3, j4, j5, j6, j20, j21, j34, j35]
          have := hRS7.set_ (k := q + 1) (by omega) ((mkF (n + 1) i F).set i cc)
          rw [set_twice]
          exact ⟨this.congr fun k hk => by unfold updR; split <;> rfl, by rw [hacc, show n + 1 - (j + 1) = n - j by omega]⟩
        · rw [if_neg (by omega)] at hacc
          repeat' (first | (exfalso; omega) | refine zA ?_ | refine zB ?_ | refine zC ?_ | refine zD ?_ | refine zE ?_ | refine zF ?_ | refine zG ?_ | refine zH ?_ | refine zI ?_ | refine zJ ?_ | refine zK rfl ?_ | refine zL ?_ | refine zM ?_ | refine zN ?_ | refine zO ?_ | refine zP rfl ?_ | refine zQ ?_ | ((first | refine zR ?_ | refine zS ?_ | refine zT ?_ | skip); intro K k; simp (disch := (first | (simp only [yD2, beq_self_eq_true, Nat.reduceLT, Nat.reduceAdd]; done) | ((fail_if_success (apply Bool.eq_iff_iff.2)); first | omega | (simp only [yD2, beq_self_eq_true, Nat.reduceLT, Nat.reduceAdd] <;> omega)) | fail)) only [↓yS, yT, ↓reduceIte, Nat.reduceEqDiff, Nat.reduceAdd, Nat.reduceMul, reduceCtorEq, Int.reduceToNat, g36, j0, j3, j4, j5, j6, j7, j20, j21, j34, j35, hrdo7, hrdr7, hrow7, htab, hsa, hcc]; refine yC (k _ _ ?_); clear k K) | ((first | refine zU ?_ | refine zV ?_ | refine zW ?_); intro A B C D a b c d; simp only [↓yG, Nat.reduceEqDiff, ↓reduceIte, g36, j0, j3, j4, j5, j6, j7, j20, j21, j34, j35, hrdo7, hrdr7, hrow7, htab, hsa, hcc]; (first | refine zX (a ?_) | refine zY (b ?_) | refine zZ (fun hc => c ?_) (fun hc => d ?_)) <;> clear a b c d A B C D <;> try simp only [yL] at hc) | (refine yA ?_; intro A a; simp only [↓yG, Nat.reduceEqDiff, ↓reduceIte, g36, j0, j3, j4, j5, j6, j7, j20, j21, j34, j35, hrdo7, hrdr7, hrow7, htab, hsa, hcc]; refine yB (a ?_); clear a A) | (refine yD ?_; simp only [gresults, ↓yG, Nat.reduceEqDiff, ↓reduceIte, Option.bind_some, gld_1, gld_n, g36, j0, j3, j4, j5, j6, j7, j20, j21, j34, j35, hrdo7, hrdr7, hrow7, htab, hsa, hcc]; refine ⟨_, rfl, ?_⟩; simp only [gone]))
          refine hJ3 _ _ ⟨n + 1 - (j + 1), by omega, j + 1, acc, by omega, by omega, rfl, ?_⟩
          simp only [↓yG, Nat.reduceEqDiff, ↓reduceIte, Int.natCast_add, Int.cast_ofNat_Int, Int.natCast_zero, true_and, and_true, Option.some.injEq, Value.int.injEq, j0, j3, j4, j5, j6, j20, j21, j34, j35]
          exact ⟨hRS7, by rw [hacc, show n + 1 - (j + 1) = n - j by omega]⟩
end Go.Gh
