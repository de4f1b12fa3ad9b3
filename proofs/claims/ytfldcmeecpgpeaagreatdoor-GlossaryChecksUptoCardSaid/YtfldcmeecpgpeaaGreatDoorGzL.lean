/-
  glossary: the law Checks.
-/
import Derived.Test.YtfldcmeecpgpeaaGreatDoorGzR
import Derived.Test.YtfldcmeecpgpeaaGreatDoorGzP
import Derived.Test.YtfldcmeecpgpeaaGreatDoorGlWP
import Derived.Test.YtfldcmeecpgpeaaGreatDoorK5
namespace Go.Gh
set_option linter.unusedSimpArgs false
set_option linter.unusedVariables false
set_option maxHeartbeats 4000000
open Go.RowKit Go.Lib
set_option maxRecDepth 4000
theorem str_of {Q : Nat → Prop} {H : GHeap} {r : List Value} (h : RdSQ Q H .str r) : ∃ b : List UInt8, r = [.string (strB b)] ∧ Q b.length := by
  simp only [RdSQ] at h
  obtain ⟨s, rfl, _, h⟩ := h
  refine ⟨s.data.toList, by rw [strB_of], ?_⟩
  have : s.data.toList.length = s.size := rfl
  rw [this]; exact h
theorem strs_flat (l : List (List UInt8)) : l.flatMap (fun b => [Value.string (strB b)]) = strs l := by
  unfold strs
  induction l with
  | nil => rfl
  | cons b l ih => rw [List.flatMap_cons, ih]; rfl
theorem strs_of {Q : Nat → Prop} {H : GHeap} {v : Value} (h : RdAQ Q H (.sl .str) v) : ∃ g : List (List UInt8), SRd H v g ∧ Q g.length ∧ ∀ t ∈ g, Q t.length := by
  obtain ⟨l, k1, k2, k3⟩ := h.slQ_ (f := fun b => [Value.string (strB b)]) fun r hr => by
    obtain ⟨b, e, _⟩ := str_of hr; exact ⟨b, e⟩
  refine ⟨l, ?_, k2.2.2, fun t ht => ?_⟩
  · rw [strs_flat] at k1; exact k1
  · obtain ⟨b, e, hb⟩ := str_of (k3 t ht)
    simp only [List.cons.injEq, Value.string.injEq, and_true] at e
    have : t = b := congrArg (fun s : ByteArray => s.data.toList) e
    rw [this]; exact hb
abbrev termShp : Shp := .st [.str, .sl .str]
theorem terms_of {H : GHeap} {gv : Value} (h : RdAQ (fun m => m ≤ 1048576) H (.sl termShp) gv) : ∃ l : List Tm, TR H gv l ∧ l.length ≤ 1048576 ∧ ∀ x ∈ l, x.s.length ≤ 1048576 ∧ x.g.length ≤ 1048576 ∧ ∀ t ∈ x.g, t.length ≤ 1048576 := by
  have key : ∀ r, RdSQ (fun m => m ≤ 1048576) H termShp r → ∃ (s : List UInt8) (v : Value) (g : List (List UInt8)), r = [.string (strB s), v] ∧ SRd H v g ∧ s.length ≤ 1048576 ∧ g.length ≤ 1048576 ∧ ∀ t ∈ g, t.length ≤ 1048576 := by
    intro r hr
    simp only [termShp, RdSQ, RdSsQ] at hr
    obtain ⟨a, b, rfl, ⟨s, rfl, _, hs⟩, c, d, rfl, hc, rfl⟩ := hr
    obtain ⟨v, rows, rfl, h1, h2, h3⟩ := hc
    obtain ⟨g, k1, k2, k3⟩ := strs_of (Q := fun m => m ≤ 1048576) (H := H) (v := v) (by
      simp only [RdAQ, RdSQ]
      exact ⟨v, rows, rfl, h1, h2, h3⟩)
    refine ⟨s.data.toList, v, g, by rw [strB_of]; rfl, k1, hs, k2, k3⟩
  obtain ⟨l, k1, k2, k3⟩ := h.slQ_ (f := fun (x : List UInt8 × Value) => [Value.string (strB x.1), x.2]) fun r hr => by
    obtain ⟨s, v, g, e, _⟩ := key r hr; exact ⟨(s, v), e⟩
  have h2 : ∀ l : List (List UInt8 × Value), (∀ x ∈ l, RdSQ (fun m => m ≤ 1048576) H termShp [Value.string (strB x.1), x.2]) → ∃ L : List Tm, L.length = l.length ∧ l.flatMap (fun (x : List UInt8 × Value) => [Value.string (strB x.1), x.2]) = TmC L ∧ ∀ x ∈ L, SRd H x.v x.g ∧ x.s.length ≤ 1048576 ∧ x.g.length ≤ 1048576 ∧ ∀ t ∈ x.g, t.length ≤ 1048576 := by
    intro l
    induction l with
    | nil => intro _; exact ⟨[], rfl, rfl, by simp⟩
    | cons y l ih =>
      intro hl
      obtain ⟨L, e1, e2, e3⟩ := ih fun x hx => hl x (by simp [hx])
      obtain ⟨s, v, g, e, h4⟩ := key _ (hl y (by simp))
      simp only [List.cons.injEq, Value.string.injEq, and_true] at e
      have es : y.1 = s := congrArg (fun s : ByteArray => s.data.toList) e.1
      refine ⟨⟨y.1, y.2, g⟩ :: L, by simp [e1], ?_, fun x hx => ?_⟩
      · rw [List.flatMap_cons, e2]; rfl
      · rcases List.mem_cons.1 hx with rfl | hx
        · rw [e.2]; simp only; rw [es]; exact h4
        · exact e3 x hx
  obtain ⟨L, e1, e2, e3⟩ := h2 l k3
  have k22 : l.length ≤ 1048576 := k2.2.2
  refine ⟨L, ⟨?_, fun x hx => (e3 x hx).1, by omega, fun x hx => ?_⟩, by omega, fun x hx => (e3 x hx).2⟩
  · rw [e2, ← e1] at k1; exact k1
  · have := (e3 x hx).2
    exact ⟨by omega, by omega, fun t ht => by have := this.2.2 t ht; omega⟩
theorem same_ok {H : GHeap} {v w : Value} {l m : List Tm} (hv : TR H v l) (hw : TR H w m) (he : l.map Tm.t0 = m.map Tm.t0) :
    ∃ r H', gev G 12 [v, w] H = some (r, H') ∧ (r = .bool true ∧ H' = H) := by
  refine gev_GW (f := 12) rfl fun Post hPost => ?_
  have hsl := hv.isSl
  have hsl2 := hw.isSl
  have hlen : l.length = m.length := by simpa using congrArg List.length he
  rw [← hlen] at hsl2
  have hle := hv.le
  have hat : ∀ i, i < l.length → l[i]!.s = m[i]!.s ∧ l[i]!.g = m[i]!.g := fun i hi => by
    have h1 : (l.map Tm.t0)[i]? = (m.map Tm.t0)[i]? := by rw [he]
    rw [List.getElem?_map, List.getElem?_map, List.getElem?_eq_getElem hi, List.getElem?_eq_getElem (by omega)] at h1
    simp only [Option.map_some, Option.some.injEq, Tm.t0, T0.mk.injEq] at h1
    rw [getElem!_pos l i hi, getElem!_pos m i (by omega)]
    exact h1
  simp only [frameOf, Nat.reduceAdd]
  repeat' (first | (exfalso; omega) | refine zn ?_ | refine zK rfl ?_ | refine zP rfl ?_ | ((first | refine zm ?_ | skip); intro _; intros; simp (disch := first | exact zd | fail) only [↓yS, yT, gresults, gone, ↓reduceIte, Nat.reduceEqDiff, Nat.reduceAdd, Nat.reduceMul, reduceCtorEq, Int.reduceToNat, g12, hsl.len, hsl2.len]; first | (rename_i K k; (first | refine yC (k _ _ ?_) | refine zg (k _ ?_)); clear k K) | (rename_i A B C D a b c d; (first | refine zx (a ?_) | refine zy (b ?_) | refine zz (fun hc => c ?_) (fun hc => d ?_) | refine zv (b ?_) | refine zw (a ?_)) <;> clear a b c d A B C D <;> try simp only [yL] at hc)) | refine zA ?_ | refine zB ?_ | refine zF ?_)
  refine GW_loop (fun k fr H1 => ∃ (j : Nat), k = l.length - j ∧ j ≤ l.length ∧ fr.get 0 = some (v) ∧ fr.get 1 = some (w) ∧ fr.get 13 = some (.int .i64 l.length) ∧ fr.get 14 = some (.int .i64 j) ∧ H1 = H) ?_ l.length ?_
  rotate_left
  · refine ⟨0, by omega, by omega, ?_⟩
    simp only [↓yG, Nat.reduceEqDiff, ↓reduceIte, Int.natCast_add, Int.cast_ofNat_Int, Int.natCast_zero, true_and, and_true, Option.some.injEq, Value.int.injEq]
  rintro k fr H1 ⟨j, rfl, hj, f0, f1, f13, f14, rfl⟩ J hJ
  by_cases hj1 : j < l.length
  · obtain ⟨hs, hg⟩ := hat j hj1
    have hj2 : j < m.length := by omega
    have a0 := hv.row (c := 0) hj1 (by decide)
    have a1 := hv.row (c := 1) hj1 (by decide)
    have b0 := hw.row (c := 0) hj2 (by decide)
    have b1 := hw.row (c := 1) hj2 (by decide)
    have hA := hv.tg _ (bang_mem hj1)
    have hB := hw.tg _ (bang_mem hj2)
    have hAl := (hv.sz _ (bang_mem hj1)).2.1
    generalize l[j]! = x at *
    generalize m[j]! = y at *
    obtain ⟨xs, xv, xg⟩ := x
    obtain ⟨ys, yv, yg⟩ := y
    simp only at hs hg hA hB hAl
    subst hs hg
    rw [Nat.add_zero] at a0 b0
    have hA1 := hA.rd.isSl
    have hB1 := hB.rd.isSl
    have a0' : H1.rd (blk v) (ofs v + j * 2) = some (.string (strB xs)) := a0
    have b0' : H1.rd (blk w) (ofs w + j * 2) = some (.string (strB xs)) := b0
    have a1' : H1.rd (blk v) (ofs v + j * 2 + 1) = some xv := a1
    have b1' : H1.rd (blk w) (ofs w + j * 2 + 1) = some yv := b1
    have hse : ∀ e, gbin .neq e (.string (strB xs)) (.string (strB xs)) = some (.bool false) := fun e => by
      rw [gb_neqB]; simp
    repeat' (first | (exfalso; omega) | refine zn ?_ | refine zK rfl ?_ | refine zP rfl ?_ | ((first | refine zm ?_ | skip); intro _; intros; simp (disch := first | exact zd | fail) only [↓yS, yT, gresults, gone, ↓reduceIte, Nat.reduceEqDiff, Nat.reduceAdd, Nat.reduceMul, reduceCtorEq, Int.reduceToNat, g12, f0, f1, f13, f14, hsl.ia, hsl2.ia, a0', b0', a1', b1', hse, hA1.len, hB1.len]; first | (rename_i K k; (first | refine yC (k _ _ ?_) | refine zg (k _ ?_)); clear k K) | (rename_i A B C D a b c d; (first | refine zx (a ?_) | refine zy (b ?_) | refine zz (fun hc => c ?_) (fun hc => d ?_) | refine zv (b ?_) | refine zw (a ?_)) <;> clear a b c d A B C D <;> try simp only [yL] at hc)) | refine zA ?_ | refine zB ?_ | refine zF ?_)
    refine GW_loop (fun k fr H2 => ∃ (i : Nat), k = xg.length - i ∧ i ≤ xg.length ∧ fr.get 0 = some (v) ∧ fr.get 1 = some (w) ∧ fr.get 5 = some (.int .i64 j) ∧ fr.get 13 = some (.int .i64 l.length) ∧ fr.get 14 = some (.int .i64 j) ∧ fr.get 48 = some (.int .i64 xg.length) ∧ fr.get 49 = some (.int .i64 i) ∧ H2 = H1) ?_ xg.length ?_
    rotate_left
    · refine ⟨0, by omega, by omega, ?_⟩
      simp only [↓yG, Nat.reduceEqDiff, ↓reduceIte, Int.natCast_add, Int.cast_ofNat_Int, Int.natCast_zero, true_and, and_true, Option.some.injEq, Value.int.injEq, f0, f1, f13, f14]
    rintro k2 fr2 H2 ⟨i, rfl, hi, i0, i1, i5, i13, i14, i48, i49, rfl⟩ J2 hJ2
    by_cases hi1 : i < xg.length
    · have c1 := SRd.at_ hA hi1
      have c2 := SRd.at_ hB hi1
      have hse2 : ∀ e, gbin .neq e (.string (strB xg[i]!)) (.string (strB xg[i]!)) = some (.bool false) := fun e => by
        rw [gb_neqB]; simp
      repeat' (first | (exfalso; omega) | refine zn ?_ | refine zK rfl ?_ | refine zP rfl ?_ | ((first | refine zm ?_ | skip); intro _; intros; simp (disch := first | exact zd | fail) only [↓yS, yT, gresults, gone, ↓reduceIte, Nat.reduceEqDiff, Nat.reduceAdd, Nat.reduceMul, reduceCtorEq, Int.reduceToNat, g12, i0, i1, i5, i13, i14, i48, i49, hsl.ia, hsl2.ia, a1', b1', hA1.ia, hB1.ia, c1, c2, hse2]; first | (rename_i K k; (first | refine yC (k _ _ ?_) | refine zg (k _ ?_)); clear k K) | (rename_i A B C D a b c d; (first | refine zx (a ?_) | refine zy (b ?_) | refine zz (fun hc => c ?_) (fun hc => d ?_) | refine zv (b ?_) | refine zw (a ?_)) <;> clear a b c d A B C D <;> try simp only [yL] at hc)) | refine zA ?_ | refine zB ?_ | refine zF ?_)
      refine hJ2 _ _ ⟨xg.length - (i + 1), by omega, i + 1, rfl, by omega, ?_⟩
      simp only [↓yG, Nat.reduceEqDiff, ↓reduceIte, Int.natCast_add, Int.cast_ofNat_Int, Int.natCast_zero, true_and, and_true, Option.some.injEq, Value.int.injEq, i0, i1, i5, i13, i14, i48, i49]
    · obtain rfl : i = xg.length := by omega
      repeat' (first | (exfalso; omega) | refine zn ?_ | refine zK rfl ?_ | refine zP rfl ?_ | ((first | refine zm ?_ | skip); intro _; intros; simp (disch := first | exact zd | fail) only [↓yS, yT, gresults, gone, ↓reduceIte, Nat.reduceEqDiff, Nat.reduceAdd, Nat.reduceMul, reduceCtorEq, Int.reduceToNat, g12, i0, i1, i5, i13, i14, i48, i49]; first | (rename_i K k; (first | refine yC (k _ _ ?_) | refine zg (k _ ?_)); clear k K) | (rename_i A B C D a b c d; (first | refine zx (a ?_) | refine zy (b ?_) | refine zz (fun hc => c ?_) (fun hc => d ?_) | refine zv (b ?_) | refine zw (a ?_)) <;> clear a b c d A B C D <;> try simp only [yL] at hc)) | refine zA ?_ | refine zB ?_ | refine zF ?_)
      refine hJ _ _ ⟨l.length - (j + 1), by omega, j + 1, rfl, by omega, ?_⟩
      simp only [↓yG, Nat.reduceEqDiff, ↓reduceIte, Int.natCast_add, Int.cast_ofNat_Int, Int.natCast_zero, true_and, and_true, Option.some.injEq, Value.int.injEq, i0, i1, i5, i13, i14, i48, i49]
  · obtain rfl : j = l.length := by omega
    repeat' (first | (exfalso; omega) | refine zn ?_ | refine zK rfl ?_ | refine zP rfl ?_ | ((first | refine zm ?_ | skip); intro _; intros; simp (disch := first | exact zd | fail) only [↓yS, yT, gresults, gone, ↓reduceIte, Nat.reduceEqDiff, Nat.reduceAdd, Nat.reduceMul, reduceCtorEq, Int.reduceToNat, g12, f0, f1, f13, f14]; first | (rename_i K k; (first | refine yC (k _ _ ?_) | refine zg (k _ ?_)); clear k K) | (rename_i A B C D a b c d; (first | refine zx (a ?_) | refine zy (b ?_) | refine zz (fun hc => c ?_) (fun hc => d ?_) | refine zv (b ?_) | refine zw (a ?_)) <;> clear a b c d A B C D <;> try simp only [yL] at hc)) | refine zA ?_ | refine zB ?_ | refine zF ?_)
    exact hPost _ _ ⟨rfl, rfl⟩
theorem neP_self (a b : Int) : gbin .neq (some (.parts [(0, none, .int), (1, none, .int)])) (.agg #[.int .i64 a, .int .i64 b]) (.agg #[.int .i64 a, .int .i64 b]) = some (.bool false) := by
  have h0 : geqIn 12 (.parts [(0, none, .int), (1, none, .int)]) (.agg #[.int .i64 a, .int .i64 b]) (.agg #[.int .i64 a, .int .i64 b]) = match geqIn 11 .int (.int .i64 a) (.int .i64 a) with
    | some true => (match geqIn 11 .int (.int .i64 b) (.int .i64 b) with
      | some true => some true
      | z => z)
    | z => z := rfl
  have hI : ∀ x : Int, geqIn 11 .int (.int .i64 x) (.int .i64 x) = some true := fun x => by simp [geqIn]
  simp only [hI] at h0
  simp only [gbin, geq, h0]; rfl
theorem awake_ok' (H : GHeap) : ∃ r H', gev G 4 [] H = some (r, H') ∧ (r = .bool true ∧ H' = H) := ⟨_, _, awake_gev H, rfl, rfl⟩
theorem txtF_nil {l : List Tm} (h : ¬ (txtF l).2 = 0) : (txtF l).1 = [] := by
  unfold txtF at h ⊢
  repeat' split
  · rfl
  · rfl
  · rfl
  · rename_i h1 h2 h3
    rw [if_neg h1, if_neg h2, if_neg h3] at h
    exact absurd rfl h
theorem checks_ok {H : GHeap} (hw : H.wf) {v : Value} {l : List Tm} (hv : TR H v l) (hl : l.length ≤ 1048576) : ∃ r H', gev G 3 [v] H = some (r, H') ∧ r = .bool true := by
  refine gev_GW (f := 3) rfl fun Post hPost => ?_
  have hP : ∀ H', Post (.bool true) H' := fun H' => hPost _ _ rfl
  simp only [frameOf, Nat.reduceAdd]
  repeat' (first | (exfalso; omega) | refine zn ?_ | refine zK rfl ?_ | refine zP rfl ?_ | ((first | refine zm ?_ | skip); intro _; intros; simp (disch := first | exact zd | fail) only [↓yS, yT, gresults, gone, ↓reduceIte, Nat.reduceEqDiff, Nat.reduceAdd, Nat.reduceMul, reduceCtorEq, Int.reduceToNat, g3]; first | (rename_i K k; (first | refine yC (k _ _ ?_) | refine zg (k _ ?_)); clear k K) | (rename_i A B C D a b c d; (first | refine zx (a ?_) | refine zy (b ?_) | refine zz (fun hc => c ?_) (fun hc => d ?_) | refine zv (b ?_) | refine zw (a ?_)) <;> clear a b c d A B C D <;> try simp only [yL] at hc)) | refine zA ?_ | refine zB ?_ | refine zF ?_)
  refine Gw_s fun K' hK' => G1_call (by simp only [gtarget, ↓GArg.ev, ↓evs, ↓Tr.get_set, Nat.reduceEqDiff, if_true, if_false, ↓reduceIte, Option.map_some]; rfl) (awake_ok' _) fun r1 H1 hq => hK' _ _ ?_
  obtain ⟨rfl, rfl⟩ := hq
  repeat' (first | (exfalso; omega) | refine zn ?_ | refine zK rfl ?_ | refine zP rfl ?_ | ((first | refine zm ?_ | skip); intro _; intros; simp (disch := first | exact zd | fail) only [↓yS, yT, gresults, gone, ↓reduceIte, Nat.reduceEqDiff, Nat.reduceAdd, Nat.reduceMul, reduceCtorEq, Int.reduceToNat, g3]; first | (rename_i K k; (first | refine yC (k _ _ ?_) | refine zg (k _ ?_)); clear k K) | (rename_i A B C D a b c d; (first | refine zx (a ?_) | refine zy (b ?_) | refine zz (fun hc => c ?_) (fun hc => d ?_) | refine zv (b ?_) | refine zw (a ?_)) <;> clear a b c d A B C D <;> try simp only [yL] at hc)) | refine zA ?_ | refine zB ?_ | refine zF ?_)
  intro K' hK'; refine G1_call (by simp only [gtarget, ↓GArg.ev, ↓evs, ↓Tr.get_set, Nat.reduceEqDiff, if_true, if_false, ↓reduceIte, Option.map_some]; rfl) (Check_ok hw hv) fun r2 H2 hq => hK' _ _ ?_
  obtain ⟨rfl, hS2⟩ := hq
  repeat' (first | (exfalso; omega) | refine zn ?_ | refine zK rfl ?_ | refine zP rfl ?_ | ((first | refine zm ?_ | skip); intro _; intros; simp (disch := first | exact zd | fail) only [↓yS, yT, gresults, gone, ↓reduceIte, Nat.reduceEqDiff, Nat.reduceAdd, Nat.reduceMul, reduceCtorEq, Int.reduceToNat, g3]; first | (rename_i K k; (first | refine yC (k _ _ ?_) | refine zg (k _ ?_)); clear k K) | (rename_i A B C D a b c d; (first | refine zx (a ?_) | refine zy (b ?_) | refine zz (fun hc => c ?_) (fun hc => d ?_) | refine zv (b ?_) | refine zw (a ?_)) <;> clear a b c d A B C D <;> try simp only [yL] at hc)) | refine zA ?_ | refine zB ?_ | refine zF ?_)
  intro K' hK'; refine G1_call (by simp only [gtarget, ↓GArg.ev, ↓evs, ↓Tr.get_set, Nat.reduceEqDiff, if_true, if_false, ↓reduceIte, Option.map_some]; rfl) (rCheck_ok hS2.wf (hv.later hw hS2)) fun r3 H3 hq => hK' _ _ ?_
  obtain ⟨rfl, hS3⟩ := hq
  have hS3' := hS2.trans hS3
  repeat' (first | (exfalso; omega) | refine zn ?_ | refine zK rfl ?_ | refine zP rfl ?_ | ((first | refine zm ?_ | skip); intro _; intros; simp (disch := first | exact zd | fail) only [↓yS, yT, gresults, gone, ↓reduceIte, Nat.reduceEqDiff, Nat.reduceAdd, Nat.reduceMul, reduceCtorEq, Int.reduceToNat, g3]; first | (rename_i K k; (first | refine yC (k _ _ ?_) | refine zg (k _ ?_)); clear k K) | (rename_i A B C D a b c d; (first | refine zx (a ?_) | refine zy (b ?_) | refine zz (fun hc => c ?_) (fun hc => d ?_) | refine zv (b ?_) | refine zw (a ?_)) <;> clear a b c d A B C D <;> try simp only [yL] at hc)) | refine zA ?_ | refine zB ?_ | refine zF ?_)
  refine Gw_s fun K' hK' => G1_call (by simp only [gtarget, ↓GArg.ev, ↓evs, ↓Tr.get_set, Nat.reduceEqDiff, if_true, if_false, ↓reduceIte, Option.map_some]; rfl) (Clashes_ok hS3'.wf (hv.later hw hS3') hl) fun av H4 hA => hK' _ _ ?_
  have hS4 := hS3'.trans hA.same
  repeat' (first | (exfalso; omega) | refine zn ?_ | refine zK rfl ?_ | refine zP rfl ?_ | ((first | refine zm ?_ | skip); intro _; intros; simp (disch := first | exact zd | fail) only [↓yS, yT, gresults, gone, ↓reduceIte, Nat.reduceEqDiff, Nat.reduceAdd, Nat.reduceMul, reduceCtorEq, Int.reduceToNat, g3]; first | (rename_i K k; (first | refine yC (k _ _ ?_) | refine zg (k _ ?_)); clear k K) | (rename_i A B C D a b c d; (first | refine zx (a ?_) | refine zy (b ?_) | refine zz (fun hc => c ?_) (fun hc => d ?_) | refine zv (b ?_) | refine zw (a ?_)) <;> clear a b c d A B C D <;> try simp only [yL] at hc)) | refine zA ?_ | refine zB ?_ | refine zF ?_)
  refine Gw_s fun K' hK' => G1_call (by simp only [gtarget, ↓GArg.ev, ↓evs, ↓Tr.get_set, Nat.reduceEqDiff, if_true, if_false, ↓reduceIte, Option.map_some]; rfl) (rClashes_ok hS4.wf (hv.later hw hS4) hl) fun bv H5 hB => hK' _ _ ?_
  have hS5 := hS4.trans hB.same
  have hAr : GArg1 H5 2 av (claF l l.length).length (PrC (claF l l.length)) := GArg1.same hA.arg hS4.wf hB.same
  have hBr := hB.arg
  have hslA := hAr.rd.isSl
  have hslB := hBr.rd.isSl
  have hcl := claF_len l l.length
  have hcl2 : l.length * l.length ≤ 1048576 * 1048576 := Nat.mul_le_mul hl hl
  have hC : (claF l l.length).length ≤ 1099511627776 := by omega
  generalize claF l l.length = C at *
  clear hcl hcl2
  repeat' (first | (exfalso; omega) | refine zn ?_ | refine zK rfl ?_ | refine zP rfl ?_ | ((first | refine zm ?_ | skip); intro _; intros; simp (disch := first | exact zd | fail) only [↓yS, yT, gresults, gone, ↓reduceIte, Nat.reduceEqDiff, Nat.reduceAdd, Nat.reduceMul, reduceCtorEq, Int.reduceToNat, g3, hslA.len, hslB.len]; first | (rename_i K k; (first | refine yC (k _ _ ?_) | refine zg (k _ ?_)); clear k K) | (rename_i A B C D a b c d; (first | refine zx (a ?_) | refine zy (b ?_) | refine zz (fun hc => c ?_) (fun hc => d ?_) | refine zv (b ?_) | refine zw (a ?_)) <;> clear a b c d A B C D <;> try simp only [yL] at hc)) | refine zA ?_ | refine zB ?_ | refine zF ?_)
  refine GW_loop (fun k fr H6 => ∃ (j : Nat), k = C.length - j ∧ j ≤ C.length ∧ fr.get 0 = some (v) ∧ fr.get 3 = some (av) ∧ fr.get 4 = some (bv) ∧ fr.get 31 = some (.int .i64 C.length) ∧ fr.get 32 = some (.int .i64 j) ∧ H6 = H5) ?_ C.length ?_
  rotate_left
  · refine ⟨0, by omega, by omega, ?_⟩
    simp only [↓yG, Nat.reduceEqDiff, ↓reduceIte, Int.natCast_add, Int.cast_ofNat_Int, Int.natCast_zero, true_and, and_true, Option.some.injEq, Value.int.injEq]
    try rfl
  rintro k fr H6 ⟨j, rfl, hj, f0, f3, f4, f31, f32, rfl⟩ J hJ
  by_cases hj1 : j < C.length
  · have e1 := GRd.rowN (f := prC) hAr.rd prC_len (by decide) hj1
    have e2 := GRd.rowN (f := prC) hBr.rd prC_len (by decide) hj1
    have hne := neP_self (C[j]!).1 (C[j]!).2
    unfold prC at e1 e2
    generalize C[j]! = d at *
    repeat' (first | (exfalso; omega) | refine zn ?_ | refine zK rfl ?_ | refine zP rfl ?_ | ((first | refine zm ?_ | skip); intro _; intros; simp (disch := first | exact zd | fail) only [↓yS, yT, gresults, gone, ↓reduceIte, Nat.reduceEqDiff, Nat.reduceAdd, Nat.reduceMul, reduceCtorEq, Int.reduceToNat, g3, f0, f3, f4, f31, f32, hslA.ia, hslB.ia, e1, e2, hne]; first | (rename_i K k; (first | refine yC (k _ _ ?_) | refine zg (k _ ?_)); clear k K) | (rename_i A B C D a b c d; (first | refine zx (a ?_) | refine zy (b ?_) | refine zz (fun hc => c ?_) (fun hc => d ?_) | refine zv (b ?_) | refine zw (a ?_)) <;> clear a b c d A B C D <;> try simp only [yL] at hc)) | refine zA ?_ | refine zB ?_ | refine zF ?_)
    refine hJ _ _ ⟨C.length - (j + 1), by omega, j + 1, rfl, by omega, ?_⟩
    simp only [↓yG, Nat.reduceEqDiff, ↓reduceIte, Int.natCast_add, Int.cast_ofNat_Int, Int.natCast_zero, true_and, and_true, Option.some.injEq, Value.int.injEq, f0, f3, f4, f31, f32]
  obtain rfl : j = C.length := by omega
  repeat' (first | (exfalso; omega) | refine zn ?_ | refine zK rfl ?_ | refine zP rfl ?_ | ((first | refine zm ?_ | skip); intro _; intros; simp (disch := first | exact zd | fail) only [↓yS, yT, gresults, gone, ↓reduceIte, Nat.reduceEqDiff, Nat.reduceAdd, Nat.reduceMul, reduceCtorEq, Int.reduceToNat, g3, f0, f3, f4, f31, f32]; first | (rename_i K k; (first | refine yC (k _ _ ?_) | refine zg (k _ ?_)); clear k K) | (rename_i A B C D a b c d; (first | refine zx (a ?_) | refine zy (b ?_) | refine zz (fun hc => c ?_) (fun hc => d ?_) | refine zv (b ?_) | refine zw (a ?_)) <;> clear a b c d A B C D <;> try simp only [yL] at hc)) | refine zA ?_ | refine zB ?_ | refine zF ?_)
  refine Gw_s fun K' hK' => G1_call (by simp only [gtarget, ↓GArg.ev, ↓evs, ↓Tr.get_set, Nat.reduceEqDiff, if_true, if_false, ↓reduceIte, Option.map_some, f0, f3, f4, f31, f32]; rfl) (Text_ok hS5.wf (hv.later hw hS5)) fun r7 H7 hq => hK' _ _ ?_
  obtain ⟨rfl, hS7⟩ := hq
  have hS7' := hS5.trans hS7
  repeat' (first | (exfalso; omega) | refine zn ?_ | refine zK rfl ?_ | refine zP rfl ?_ | ((first | refine zm ?_ | skip); intro _; intros; simp (disch := first | exact zd | fail) only [↓yS, yT, gresults, gone, ↓reduceIte, Nat.reduceEqDiff, Nat.reduceAdd, Nat.reduceMul, reduceCtorEq, Int.reduceToNat, g3, f0, f3, f4, f31, f32]; first | (rename_i K k; (first | refine yC (k _ _ ?_) | refine zg (k _ ?_)); clear k K) | (rename_i A B C D a b c d; (first | refine zx (a ?_) | refine zy (b ?_) | refine zz (fun hc => c ?_) (fun hc => d ?_) | refine zv (b ?_) | refine zw (a ?_)) <;> clear a b c d A B C D <;> try simp only [yL] at hc)) | refine zA ?_ | refine zB ?_ | refine zF ?_)
  refine Gw_s fun K' hK' => G1_call (by simp only [gtarget, ↓GArg.ev, ↓evs, ↓Tr.get_set, Nat.reduceEqDiff, if_true, if_false, ↓reduceIte, Option.map_some, f0, f3, f4, f31, f32]; rfl) (rText_ok hS7'.wf (hv.later hw hS7')) fun r8 H8 hq => hK' _ _ ?_
  obtain ⟨rfl, hS8⟩ := hq
  have hS8' := hS7'.trans hS8
  have hpt := @par_txt l
  have htn := @txtF_nil l
  have hss : ∀ e, gbin .neq e (.string (strB (txtF l).1)) (.string (strB (txtF l).1)) = some (.bool false) := fun e => by rw [gb_neqB]; simp
  generalize hs1 : (txtF l).1 = s at *
  generalize hs2 : (txtF l).2 = e at *
  by_cases he : e = 0
  case neg =>
    have hnil := htn he
    subst hnil
    have heq : ∀ e, gbin .eql e (.string (strB [])) (.string ⟨#[]⟩) = some (.bool true) := fun e => by rw [eqE]; rfl
    have hee : ¬ ((e : Nat) : Int) = 0 := by omega
    repeat' (first | (exfalso; omega) | refine zn ?_ | refine zK rfl ?_ | refine zP rfl ?_ | ((first | refine zm ?_ | skip); intro _; intros; simp (disch := first | exact zd | fail) only [↓yS, yT, gresults, gone, ↓reduceIte, Nat.reduceEqDiff, Nat.reduceAdd, Nat.reduceMul, reduceCtorEq, Int.reduceToNat, g3, f0, f3, f4, f31, f32, hss, heq]; first | (rename_i K k; (first | refine yC (k _ _ ?_) | refine zg (k _ ?_)); clear k K) | (rename_i A B C D a b c d; (first | refine zx (a ?_) | refine zy (b ?_) | refine zz (fun hc => c ?_) (fun hc => d ?_) | refine zv (b ?_) | refine zw (a ?_)) <;> clear a b c d A B C D <;> try simp only [yL] at hc)) | refine zA ?_ | refine zB ?_ | refine zF ?_)
    exact hP _
  obtain ⟨hp1, hp2, hp3⟩ := hpt he
  subst he
  repeat' (first | (exfalso; omega) | refine zn ?_ | refine zK rfl ?_ | refine zP rfl ?_ | ((first | refine zm ?_ | skip); intro _; intros; simp (disch := first | exact zd | fail) only [↓yS, yT, gresults, gone, ↓reduceIte, Nat.reduceEqDiff, Nat.reduceAdd, Nat.reduceMul, reduceCtorEq, Int.reduceToNat, g3, f0, f3, f4, f31, f32, hss]; first | (rename_i K k; (first | refine yC (k _ _ ?_) | refine zg (k _ ?_)); clear k K) | (rename_i A B C D a b c d; (first | refine zx (a ?_) | refine zy (b ?_) | refine zz (fun hc => c ?_) (fun hc => d ?_) | refine zv (b ?_) | refine zw (a ?_)) <;> clear a b c d A B C D <;> try simp only [yL] at hc)) | refine zA ?_ | refine zB ?_ | refine zF ?_)
  refine Gw_s fun K' hK' => G1_call (by simp only [gtarget, ↓GArg.ev, ↓evs, ↓Tr.get_set, Nat.reduceEqDiff, if_true, if_false, ↓reduceIte, Option.map_some, f0, f3, f4, f31, f32]; rfl) (Parse_ok hS8'.wf (src := s) (by omega)) fun r9 H9 hq => hK' _ _ ?_
  obtain ⟨tv, dv, T, rfl, hT, hTe, hD, hS9⟩ := hq
  rw [hp2] at hD
  have hdl : glen false dv = some (.int .i64 0) := hD.rd.isSl.len
  have hS9' := hS8'.trans hS9
  repeat' (first | (exfalso; omega) | refine zn ?_ | refine zK rfl ?_ | refine zP rfl ?_ | ((first | refine zm ?_ | skip); intro _; intros; simp (disch := first | exact zd | fail) only [↓yS, yT, gresults, gone, ↓reduceIte, Nat.reduceEqDiff, Nat.reduceAdd, Nat.reduceMul, reduceCtorEq, Int.reduceToNat, g3, f0, f3, f4, f31, f32, hdl]; first | (rename_i K k; (first | refine yC (k _ _ ?_) | refine zg (k _ ?_)); clear k K) | (rename_i A B C D a b c d; (first | refine zx (a ?_) | refine zy (b ?_) | refine zz (fun hc => c ?_) (fun hc => d ?_) | refine zv (b ?_) | refine zw (a ?_)) <;> clear a b c d A B C D <;> try simp only [yL] at hc)) | refine zA ?_ | refine zB ?_ | refine zF ?_)
  intro K' hK'; refine G1_call (by simp only [gtarget, ↓GArg.ev, ↓evs, ↓Tr.get_set, Nat.reduceEqDiff, if_true, if_false, ↓reduceIte, Option.map_some, f0, f3, f4, f31, f32]; rfl) (same_ok hT (hv.later hw hS9') (by rw [hTe, hp3])) fun r10 H10 hq => hK' _ _ ?_
  obtain ⟨rfl, rfl⟩ := hq
  repeat' (first | (exfalso; omega) | refine zn ?_ | refine zK rfl ?_ | refine zP rfl ?_ | ((first | refine zm ?_ | skip); intro _; intros; simp (disch := first | exact zd | fail) only [↓yS, yT, gresults, gone, ↓reduceIte, Nat.reduceEqDiff, Nat.reduceAdd, Nat.reduceMul, reduceCtorEq, Int.reduceToNat, g3, f0, f3, f4, f31, f32]; first | (rename_i K k; (first | refine yC (k _ _ ?_) | refine zg (k _ ?_)); clear k K) | (rename_i A B C D a b c d; (first | refine zx (a ?_) | refine zy (b ?_) | refine zz (fun hc => c ?_) (fun hc => d ?_) | refine zv (b ?_) | refine zw (a ?_)) <;> clear a b c d A B C D <;> try simp only [yL] at hc)) | refine zA ?_ | refine zB ?_ | refine zF ?_)
  exact hP _
theorem checks_law {H : GHeap} (hw : H.wf) {gvs : List Value} (h : RdAsQ (fun m => m ≤ 1048576) H [.sl termShp] gvs) : ∃ v H2, gev G 3 gvs H = some (v, H2) ∧ v = .bool true := by
  obtain ⟨v, _, rfl, h1, rfl⟩ := h
  obtain ⟨l, hv, hl, _⟩ := terms_of h1
  exact checks_ok hw hv hl
end Go.Gh
