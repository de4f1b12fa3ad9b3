/-
  lines and its reference, walked: the fields of a line.
-/
import Derived.Test.YtfldcmeecpgpeaaGreatDoorGlW6
namespace Go.Gh
set_option linter.unusedSimpArgs false
set_option linter.unusedVariables false
set_option maxHeartbeats 4000000
open Go.RowKit Go.Lib
set_option maxRecDepth 4000
def fdC (f : Fd) : List Value := [.string (strB f.t), .int .i64 f.c, .bool f.q]
def fdV (f : Fd) : Value := .agg #[.string (strB f.t), .int .i64 f.c, .bool f.q]
theorem fdC_len (f : Fd) : (fdC f).length = 3 := rfl
def FdC (l : List Fd) : List Value := l.flatMap fdC
theorem FdC_snoc (l : List Fd) (f : Fd) : FdC (l ++ [f]) = FdC l ++ fdC f := by simp [FdC]
abbrev FRd (H : GHeap) (v : Value) (l : List Fd) : Prop := GArg1 H 3 v l.length (FdC l)
theorem FRd.rowN {H : GHeap} {v : Value} {l : List Fd} (h : FRd H v l) {k : Nat} (hk : k < l.length) : H.rdn (blk v) (ofs v + k * 3) 3 = some (fdV l[k]!) := GRd.rowN (f := fdC) h.rd fdC_len (by decide) hk
theorem FRd.row {H : GHeap} {v : Value} {l : List Fd} (h : FRd H v l) {k c : Nat} (hk : k < l.length) (hc : c < 3) : H.rd (blk v) (ofs v + k * 3 + c) = (fdC l[k]!)[c]? := GRd.row (f := fdC) h.rd fdC_len hk hc
theorem fill_fd {f : Fd} : fillL (zeros [.string ⟨#[]⟩, .int .i64 0, .bool false] 1) [(0, 3, fdV f)] = some (fdC f) := by
  simp [fillL, fdV, fdC, zeros, Value.cells, flatV]
def FdOut (a d : Int) (H H' : GHeap) (r : Value) : FdR → Prop
  | .ok L => ∃ v, r = .tuple #[v, .int .i64 a] ∧ OS 3 3 H H' v L.length (FdC L)
  | .bad i => r = .tuple #[.slice none 0 0, .int .i64 ((i : Int) + d)] ∧ Same H H'
theorem drop0 {l : List UInt8} {i : Nat} (h : i < l.length) : (l.drop i)[0]! = l[i]! := by
  rw [drop_cons h]; rfl
theorem fields_ok {H : GHeap} (hw : H.wf) {l : List UInt8} (hl : l.length ≤ 16777216) : ∃ r H', gev G 58 [.string (strB l)] H = some (r, H') ∧ FdOut 0 1 H H' r (flds l 0) := by
  refine gev_GW (f := 58) rfl fun Post hPost => ?_
  have hls := strB_size l
  have hlim := hw.1
  generalize hR : flds l 0 = R at hPost
  simp only [frameOf, Nat.reduceAdd]
  repeat' (first | refine zn ?_ | refine zK rfl ?_ | refine zP rfl ?_ | ((first | refine zm ?_ | skip); intro _; intros; simp (disch := first | exact zd | fail) only [↓yS, yT, gresults, gone, ↓reduceIte, Nat.reduceEqDiff, Nat.reduceAdd, Nat.reduceMul, reduceCtorEq, Int.reduceToNat, g58]; first | (rename_i K k; (first | refine yC (k _ _ ?_) | refine zg (k _ ?_)); clear k K) | (rename_i A B C D a b c d; (first | refine zx (a ?_) | refine zy (b ?_) | refine zz (fun hc => c ?_) (fun hc => d ?_) | refine zv (b ?_) | refine zw (a ?_)) <;> clear a b c d A B C D <;> try simp only [yL] at hc)) | refine zA ?_ | refine zB ?_ | refine zF ?_)
  refine GW_loop (fun k fr H1 => ∃ (i : Nat) (o : List Fd) (v : Value), k = l.length - i ∧ i ≤ l.length ∧ o.length ≤ i ∧ fr.get 0 = some (.string (strB l)) ∧ fr.get 4 = some (v) ∧ fr.get 5 = some (.int .i64 i) ∧ OS 3 3 H H1 v o.length (FdC o) ∧ (flds l i).pre o = R) ?_ l.length ?_
  case refine_2 =>
    refine ⟨0, [], .slice none 0 0, by omega, by omega, by simp, ?_⟩
    simp only [↓yG, Nat.reduceEqDiff, ↓reduceIte, Int.natCast_add, Int.cast_ofNat_Int, Int.natCast_zero, true_and, and_true, Option.some.injEq, Value.int.injEq]
    exact ⟨OS.nil (Same.refl hw), by rw [FdR.pre_nil]; exact hR⟩
  rintro k fr H1 ⟨i, o, v, rfl, hi, ho, f0, f4, f5, hO, hq⟩ J hJ
  have hw1 := hO.same.wf
  by_cases hil : i < l.length
  case neg =>
    obtain rfl : i = l.length := by omega
    rw [flds_end (Nat.le_refl _)] at hq
    simp only [FdR.pre, List.append_nil] at hq
    subst hq
    repeat' (first | (exfalso; omega) | refine zn ?_ | refine zK rfl ?_ | refine zP rfl ?_ | ((first | refine zm ?_ | skip); intro _; intros; simp (disch := first | exact zd | fail) only [↓yS, yT, gresults, gone, ↓reduceIte, Nat.reduceEqDiff, Nat.reduceAdd, Nat.reduceMul, reduceCtorEq, Int.reduceToNat, g58, f0, f4, f5, hls]; first | (rename_i K k; (first | refine yC (k _ _ ?_) | refine zg (k _ ?_)); clear k K) | (rename_i A B C D a b c d; (first | refine zx (a ?_) | refine zy (b ?_) | refine zz (fun hc => c ?_) (fun hc => d ?_) | refine zv (b ?_) | refine zw (a ?_)) <;> clear a b c d A B C D <;> try simp only [yL] at hc)) | refine zA ?_ | refine zB ?_ | refine zF ?_)
    exact hPost _ _ ⟨v, rfl, hO⟩
  have ej := fun k => strB_at (k := k) hil
  have hd0 := drop0 hil
  have hsuf : ∀ H k, gslice .str H (.string (strB l)) (some (.int k (i : Int))) none none = some (.string (strB (l.drop i))) := fun H k => by
    have h1 := sl_suf (H := H) (l := l) (k := k) (a := i) (by omega) (by omega)
    rw [h1, Int.toNat_natCast]
  have hlim1 := hw1.1
  have hgs : gsetn [.string ⟨#[]⟩, .int .i64 0, .bool false] 0 3 (.agg #[.string ⟨#[]⟩, .int .i64 ((i : Int) + 1), .bool false]) = some [.string ⟨#[]⟩, .int .i64 ((i : Int) + 1), .bool false] := gsetn_all rfl rfl (by simp [flatV])
  have hdl : (l.drop i).length = l.length - i := by simp
  rw [flds_at hil] at hq
  by_cases b32 : l[i]! = 32
  · have b32' := eq_true b32
    rw [if_pos b32] at hq
    repeat' (first | (exfalso; omega) | refine zn ?_ | refine zK rfl ?_ | refine zP rfl ?_ | ((first | refine zm ?_ | skip); intro _; intros; simp (disch := first | exact zd | fail) only [↓yS, yT, gresults, gone, ↓reduceIte, Nat.reduceEqDiff, Nat.reduceAdd, Nat.reduceMul, reduceCtorEq, Int.reduceToNat, g58, f0, f4, f5, hls, ej, by32, b32', decide_true]; first | (rename_i K k; (first | refine yC (k _ _ ?_) | refine zg (k _ ?_)); clear k K) | (rename_i A B C D a b c d; (first | refine zx (a ?_) | refine zy (b ?_) | refine zz (fun hc => c ?_) (fun hc => d ?_) | refine zv (b ?_) | refine zw (a ?_)) <;> clear a b c d A B C D <;> try simp only [yL] at hc)) | refine zA ?_ | refine zB ?_ | refine zF ?_)
    refine hJ _ _ ⟨l.length - (i + 1), by omega, i + 1, o, v, rfl, by omega, by omega, ?_⟩
    simp only [↓yG, Nat.reduceEqDiff, ↓reduceIte, Int.natCast_add, Int.cast_ofNat_Int, Int.natCast_zero, true_and, and_true, Option.some.injEq, Value.int.injEq, f0, f4]
    exact ⟨hO, hq⟩
  have b32' := eq_false b32
  rw [if_neg b32] at hq
  by_cases b35 : l[i]! = 35
  · have b35' := eq_true b35
    rw [if_pos b35] at hq
    simp only [FdR.pre, List.append_nil] at hq
    subst hq
    repeat' (first | (exfalso; omega) | refine zn ?_ | refine zK rfl ?_ | refine zP rfl ?_ | ((first | refine zm ?_ | skip); intro _; intros; simp (disch := first | exact zd | fail) only [↓yS, yT, gresults, gone, ↓reduceIte, Nat.reduceEqDiff, Nat.reduceAdd, Nat.reduceMul, reduceCtorEq, Int.reduceToNat, g58, f0, f4, f5, hls, ej, by32, b32', decide_false, by35, b35', decide_true]; first | (rename_i K k; (first | refine yC (k _ _ ?_) | refine zg (k _ ?_)); clear k K) | (rename_i A B C D a b c d; (first | refine zx (a ?_) | refine zy (b ?_) | refine zz (fun hc => c ?_) (fun hc => d ?_) | refine zv (b ?_) | refine zw (a ?_)) <;> clear a b c d A B C D <;> try simp only [yL] at hc)) | refine zA ?_ | refine zB ?_ | refine zF ?_)
    exact hPost _ _ ⟨v, rfl, hO⟩
  have b35' := eq_false b35
  rw [if_neg b35] at hq
  by_cases b34 : l[i]! = 34
  · have b34' := eq_true b34
    have hf1 : fld1 l[i]! (l.drop (i + 1)) i = (qtd ((l.drop i).drop 1) 1 []).sh i := by
      unfold fld1
      rw [if_pos b34, ← qtd_sh, List.drop_drop, Nat.add_comm i 1]
    rw [hf1] at hq
    repeat' (first | (exfalso; omega) | refine zn ?_ | refine zK rfl ?_ | refine zP rfl ?_ | ((first | refine zm ?_ | skip); intro _; intros; simp (disch := first | exact zd | fail) only [↓yS, yT, gresults, gone, ↓reduceIte, Nat.reduceEqDiff, Nat.reduceAdd, Nat.reduceMul, reduceCtorEq, Int.reduceToNat, g58, f0, f4, f5, hls, ej, by32, b32', decide_false, by35, b35', by34, b34', decide_true, hsuf, hgs]; first | (rename_i K k; (first | refine yC (k _ _ ?_) | refine zg (k _ ?_)); clear k K) | (rename_i A B C D a b c d; (first | refine zx (a ?_) | refine zy (b ?_) | refine zz (fun hc => c ?_) (fun hc => d ?_) | refine zv (b ?_) | refine zw (a ?_)) <;> clear a b c d A B C D <;> try simp only [yL] at hc)) | refine zA ?_ | refine zB ?_ | refine zF ?_)
    refine Gw_s fun K' hK' => G1_call (by simp only [gtarget, ↓GArg.ev, ↓evs, ↓Tr.get_set, Nat.reduceEqDiff, if_true, if_false, ↓reduceIte, Option.map_some, f0, f4, f5]; rfl) (one_of (quoted_ok (l := l.drop i) (by omega) (by omega) _)) fun r2 H2 hq2 => hK' _ _ ?_
    obtain ⟨rfl, rfl⟩ := hq2
    have hS12 : ∀ C : List Value, Same H1 ((H1.add (some (.cells [.string ⟨#[]⟩, .int .i64 0, .bool false] 0 true))).put H1.len (.cells C 0 true)) := fun C => (Same.refl hw1).new _ _
    cases hQ : qtd ((l.drop i).drop 1) 1 [] with
    | bad k =>
      have hge := qtd_bad _ _ _ _ hQ
      rw [List.length_drop, hdl] at hge
      rw [hQ] at hq
      simp only [QR.sh, FdR.pre] at hq
      subst hq
      repeat' (first | (exfalso; omega) | refine zn ?_ | refine zK rfl ?_ | refine zP rfl ?_ | ((first | refine zm ?_ | skip); intro _; intros; simp (disch := first | exact zd | fail) only [↓yS, yT, gresults, gone, ↓reduceIte, Nat.reduceEqDiff, Nat.reduceAdd, Nat.reduceMul, reduceCtorEq, Int.reduceToNat, g58, f0, f4, f5, qtV]; first | (rename_i K k; (first | refine yC (k _ _ ?_) | refine zg (k _ ?_)); clear k K) | (rename_i A B C D a b c d; (first | refine zx (a ?_) | refine zy (b ?_) | refine zz (fun hc => c ?_) (fun hc => d ?_) | refine zv (b ?_) | refine zw (a ?_)) <;> clear a b c d A B C D <;> try simp only [yL] at hc)) | refine zA ?_ | refine zB ?_ | refine zF ?_)
      refine hPost _ _ ⟨?_, hO.same.trans (hS12 _)⟩
      rw [show ((k + i : Nat) : Int) + 1 = (i : Int) + k + 1 by omega]
    | ok t j =>
      have hge := qtd_ge _ _ _ _ _ hQ
      rw [List.length_drop, hdl] at hge
      rw [hQ, decide_eq_true b34] at hq
      simp only [QR.sh, FdR.pre_pre] at hq
      repeat' (first | (exfalso; omega) | refine zn ?_ | refine zK rfl ?_ | refine zP rfl ?_ | ((first | refine zm ?_ | skip); intro _; intros; simp (disch := first | exact zd | fail) only [↓yS, yT, gresults, gone, ↓reduceIte, Nat.reduceEqDiff, Nat.reduceAdd, Nat.reduceMul, reduceCtorEq, Int.reduceToNat, g58, f0, f4, f5, qtV]; first | (rename_i K k; (first | refine yC (k _ _ ?_) | refine zg (k _ ?_)); clear k K) | (rename_i A B C D a b c d; (first | refine zx (a ?_) | refine zy (b ?_) | refine zz (fun hc => c ?_) (fun hc => d ?_) | refine zv (b ?_) | refine zw (a ?_)) <;> clear a b c d A B C D <;> try simp only [yL] at hc)) | refine zA ?_ | refine zB ?_ | refine zF ?_)
      have hcell : (List.take 0 (zeros [.string ⟨#[]⟩, .int .i64 0, .bool false] 1) ++ (Value.agg #[.string (strB t), .int .i64 ((i : Int) + 1), .bool true]).cells.toList ++ List.drop (0 + 3) (zeros [.string ⟨#[]⟩, .int .i64 0, .bool false] 1)) = fdC ⟨t, i + 1, true⟩ := rfl
      rw [hcell]
      refine Gw_s fun K' hK' => ?_
      simp (disch := first | exact zd | fail) only [↓yS, yT, ↓reduceIte, Nat.reduceEqDiff, Nat.reduceAdd, Nat.reduceMul, reduceCtorEq, Int.reduceToNat, f0, f4, f5]
      obtain ⟨v2, H3, e, hO3, hB3⟩ := (hO.later (hS12 [.string (strB t), .int .i64 ((i : Int) + 1), .bool true])).app1 (b := 32) (by decide) (by decide) (news := fdC ⟨t, i + 1, true⟩) rfl (by omega) (by omega)
      refine G1_eq e (hK' _ _ ?_)
      clear hK' K' e
      repeat' (first | (exfalso; omega) | refine zn ?_ | refine zK rfl ?_ | refine zP rfl ?_ | ((first | refine zm ?_ | skip); intro _; intros; simp (disch := first | exact zd | fail) only [↓yS, yT, gresults, gone, ↓reduceIte, Nat.reduceEqDiff, Nat.reduceAdd, Nat.reduceMul, reduceCtorEq, Int.reduceToNat, g58, f0, f4, f5]; first | (rename_i K k; (first | refine yC (k _ _ ?_) | refine zg (k _ ?_)); clear k K) | (rename_i A B C D a b c d; (first | refine zx (a ?_) | refine zy (b ?_) | refine zz (fun hc => c ?_) (fun hc => d ?_) | refine zv (b ?_) | refine zw (a ?_)) <;> clear a b c d A B C D <;> try simp only [yL] at hc)) | refine zA ?_ | refine zB ?_ | refine zF ?_)
      refine hJ _ _ ⟨l.length - (i + j), by omega, i + j, o ++ [⟨t, i + 1, true⟩], v2, rfl, by omega, by simp only [List.length_append, List.length_cons, List.length_nil]; omega, ?_⟩
      simp only [↓yG, Nat.reduceEqDiff, ↓reduceIte, Int.natCast_add, Int.cast_ofNat_Int, Int.natCast_zero, true_and, and_true, Option.some.injEq, Value.int.injEq, f0, f4]
      rw [FdC_snoc, List.length_append, Nat.add_comm i j]
      exact ⟨hO3, hq⟩
  have b34' := eq_false b34
  have hf1 : fld1 l[i]! (l.drop (i + 1)) i = (wordQ (l.drop i)).sh i := by
    unfold wordQ
    rw [if_neg (fun h => b35 (hd0 ▸ h.2)), ← wrd_sh, Nat.zero_add, drop_cons hil]
    unfold fld1
    rw [if_neg b34, wrd, if_neg b32]; rfl
  have hge1 : ∀ t j, wordQ (l.drop i) = .ok t j → 1 ≤ j ∧ j ≤ l.length - i ∧ t = (l.drop i).take j := fun t j h => by
    have h1 := hf1
    rw [h] at h1
    have h2 := fld1_ge (h1.trans rfl : fld1 l[i]! (l.drop (i + 1)) i = .ok t (j + i))
    unfold wordQ at h
    rw [if_neg (fun h => b35 (hd0 ▸ h.2))] at h
    have h3 := wrd_ge _ _ _ _ _ h
    rw [hdl] at h3
    exact ⟨by omega, by omega, by simpa using h3.2.2⟩
  have hbd1 : ∀ k, wordQ (l.drop i) = .bad k → k ≤ l.length := fun k h => by
    unfold wordQ at h
    rw [if_neg (fun h => b35 (hd0 ▸ h.2))] at h
    have h3 := wrd_bad _ _ _ _ h
    rw [hdl] at h3; omega
  have hmid : ∀ j, j ≤ l.length - i → ∀ H k k', gslice .str H (.string (strB l)) (some (.int k (i : Int))) (some (.int k' ((i : Int) + j))) none = some (.string (strB ((l.drop i).take j))) := fun j hj H k k' => by
    have h1 := sl_mid (H := H) (l := l) (k := k) (k' := k') (a := i) (b := (i : Int) + j) (by omega) (by omega) (by omega)
    rw [h1, Int.toNat_natCast, show ((i : Int) + j).toNat = i + j by omega, List.drop_take, Nat.add_sub_cancel_left]
  have hmid0 : ∀ H k k', gslice .str H (.string (strB l)) (some (.int k (i : Int))) (some (.int k' (i : Int))) none = some (.string ⟨#[]⟩) := fun H k k' => by
    have h1 := hmid 0 (by omega) H k k'
    have e0 : strB [] = ⟨#[]⟩ := rfl
    simpa [e0] using h1
  have hmid1 : ∀ H k k', gslice .str H (.string (strB l)) (some (.int k (i : Int))) (some (.int k' ((i : Int) + 0))) none = some (.string ⟨#[]⟩) := fun H k k' => by rw [Int.add_zero]; exact hmid0 H k k'
  rw [hf1] at hq
  repeat' (first | (exfalso; omega) | refine zn ?_ | refine zK rfl ?_ | refine zP rfl ?_ | ((first | refine zm ?_ | skip); intro _; intros; simp (disch := first | exact zd | fail) only [↓yS, yT, gresults, gone, ↓reduceIte, Nat.reduceEqDiff, Nat.reduceAdd, Nat.reduceMul, reduceCtorEq, Int.reduceToNat, g58, f0, f4, f5, hls, ej, by32, b32', decide_false, by35, b35', by34, b34', hsuf, hgs]; first | (rename_i K k; (first | refine yC (k _ _ ?_) | refine zg (k _ ?_)); clear k K) | (rename_i A B C D a b c d; (first | refine zx (a ?_) | refine zy (b ?_) | refine zz (fun hc => c ?_) (fun hc => d ?_) | refine zv (b ?_) | refine zw (a ?_)) <;> clear a b c d A B C D <;> try simp only [yL] at hc)) | refine zA ?_ | refine zB ?_ | refine zF ?_)
  refine Gw_s fun K' hK' => G1_call (by simp only [gtarget, ↓GArg.ev, ↓evs, ↓Tr.get_set, Nat.reduceEqDiff, if_true, if_false, ↓reduceIte, Option.map_some, f0, f4, f5]; rfl) (one_of (word_ok (l := l.drop i) (by omega) _)) fun r2 H2 hq2 => hK' _ _ ?_
  obtain ⟨rfl, rfl⟩ := hq2
  have hS12 : ∀ C : List Value, Same H1 ((H1.add (some (.cells [.string ⟨#[]⟩, .int .i64 0, .bool false] 0 true))).put H1.len (.cells C 0 true)) := fun C => (Same.refl hw1).new _ _
  cases hQ : wordQ (l.drop i) with
  | bad k =>
    have hge := hbd1 k hQ
    rw [hQ] at hq
    simp only [QR.sh, FdR.pre] at hq
    subst hq
    repeat' (first | (exfalso; omega) | refine zn ?_ | refine zK rfl ?_ | refine zP rfl ?_ | ((first | refine zm ?_ | skip); intro _; intros; simp (disch := first | exact zd | fail) only [↓yS, yT, gresults, gone, ↓reduceIte, Nat.reduceEqDiff, Nat.reduceAdd, Nat.reduceMul, reduceCtorEq, Int.reduceToNat, g58, f0, f4, f5, wrV, hmid0, hmid1]; first | (rename_i K k; (first | refine yC (k _ _ ?_) | refine zg (k _ ?_)); clear k K) | (rename_i A B C D a b c d; (first | refine zx (a ?_) | refine zy (b ?_) | refine zz (fun hc => c ?_) (fun hc => d ?_) | refine zv (b ?_) | refine zw (a ?_)) <;> clear a b c d A B C D <;> try simp only [yL] at hc)) | refine zA ?_ | refine zB ?_ | refine zF ?_)
    refine hPost _ _ ⟨?_, hO.same.trans (hS12 _)⟩
    rw [show ((k + i : Nat) : Int) + 1 = (i : Int) + k + 1 by omega]
  | ok t j =>
    obtain ⟨hj1, hj2, ht⟩ := hge1 t j hQ
    have hmj := hmid j hj2
    rw [← ht] at hmj
    rw [hQ, decide_eq_false b34] at hq
    simp only [QR.sh, FdR.pre_pre] at hq
    repeat' (first | (exfalso; omega) | refine zn ?_ | refine zK rfl ?_ | refine zP rfl ?_ | ((first | refine zm ?_ | skip); intro _; intros; simp (disch := first | exact zd | fail) only [↓yS, yT, gresults, gone, ↓reduceIte, Nat.reduceEqDiff, Nat.reduceAdd, Nat.reduceMul, reduceCtorEq, Int.reduceToNat, g58, f0, f4, f5, wrV, hmj]; first | (rename_i K k; (first | refine yC (k _ _ ?_) | refine zg (k _ ?_)); clear k K) | (rename_i A B C D a b c d; (first | refine zx (a ?_) | refine zy (b ?_) | refine zz (fun hc => c ?_) (fun hc => d ?_) | refine zv (b ?_) | refine zw (a ?_)) <;> clear a b c d A B C D <;> try simp only [yL] at hc)) | refine zA ?_ | refine zB ?_ | refine zF ?_)
    have hcell : (List.take 0 (zeros [.string ⟨#[]⟩, .int .i64 0, .bool false] 1) ++ (Value.agg #[.string (strB t), .int .i64 ((i : Int) + 1), .bool false]).cells.toList ++ List.drop (0 + 3) (zeros [.string ⟨#[]⟩, .int .i64 0, .bool false] 1)) = fdC ⟨t, i + 1, false⟩ := rfl
    rw [hcell]
    refine Gw_s fun K' hK' => ?_
    simp (disch := first | exact zd | fail) only [↓yS, yT, ↓reduceIte, Nat.reduceEqDiff, Nat.reduceAdd, Nat.reduceMul, reduceCtorEq, Int.reduceToNat, f0, f4, f5]
    obtain ⟨v2, H3, e, hO3, hB3⟩ := (hO.later (hS12 [.string (strB t), .int .i64 ((i : Int) + 1), .bool false])).app1 (b := 32) (by decide) (by decide) (news := fdC ⟨t, i + 1, false⟩) rfl (by omega) (by omega)
    refine G1_eq e (hK' _ _ ?_)
    clear hK' K' e
    repeat' (first | (exfalso; omega) | refine zn ?_ | refine zK rfl ?_ | refine zP rfl ?_ | ((first | refine zm ?_ | skip); intro _; intros; simp (disch := first | exact zd | fail) only [↓yS, yT, gresults, gone, ↓reduceIte, Nat.reduceEqDiff, Nat.reduceAdd, Nat.reduceMul, reduceCtorEq, Int.reduceToNat, g58, f0, f4, f5]; first | (rename_i K k; (first | refine yC (k _ _ ?_) | refine zg (k _ ?_)); clear k K) | (rename_i A B C D a b c d; (first | refine zx (a ?_) | refine zy (b ?_) | refine zz (fun hc => c ?_) (fun hc => d ?_) | refine zv (b ?_) | refine zw (a ?_)) <;> clear a b c d A B C D <;> try simp only [yL] at hc)) | refine zA ?_ | refine zB ?_ | refine zF ?_)
    refine hJ _ _ ⟨l.length - (i + j), by omega, i + j, o ++ [⟨t, i + 1, false⟩], v2, rfl, by omega, by simp only [List.length_append, List.length_cons, List.length_nil]; omega, ?_⟩
    simp only [↓yG, Nat.reduceEqDiff, ↓reduceIte, Int.natCast_add, Int.cast_ofNat_Int, Int.natCast_zero, true_and, and_true, Option.some.injEq, Value.int.injEq, f0, f4]
    rw [FdC_snoc, List.length_append, Nat.add_comm i j]
    exact ⟨hO3, hq⟩
end Go.Gh
