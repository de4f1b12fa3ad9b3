/-
 lines, walked: Write, for one line.
-/
import Derived.Test.YtfldcmeecpgpeaaGreatDoorGzQ
import Derived.Test.YtfldcmeecpgpeaaGreatDoorGlWP
namespace Go.Gh
set_option linter.unusedSimpArgs false
set_option linter.unusedVariables false
set_option maxHeartbeats 4000000
open Go.RowKit Go.Lib
set_option maxRecDepth 4000
def wf1 (f : Fd) : List UInt8 := match wordQ f.t with
 | .ok _ j => if f.q = true ∨ f.t = [] ∨ ¬ j = f.t.length then quoF f.t else f.t
 | .bad _ => quoF f.t
def wrL (L : List Fd) (n : Nat) : List UInt8 := (List.range n).flatMap fun i => (if 0 < i then ([32] : List UInt8) else []) ++ wf1 L[i]!
theorem wrL_succ (L : List Fd) (n : Nat) : wrL L (n + 1) = (wrL L n ++ (if 0 < n then ([32] : List UInt8) else [])) ++ wf1 L[n]! := by
 unfold wrL
 rw [List.range_succ, List.flatMap_append]; simp
theorem wf1_len (f : Fd) : (wf1 f).length ≤ 2 * f.t.length + 2 := by
 have := quoF_len f.t
 unfold wf1
 repeat' split
 all_goals omega
theorem wrL_len {L : List Fd} (h : ∀ f ∈ L, f.t.length ≤ 1048576) : ∀ n, n ≤ L.length → (wrL L n).length ≤ n * 2097155
 | 0, _ => by simp [wrL]
 | n + 1, hn => by
  have h1 := wrL_len h n (by omega)
  have h2 := wf1_len L[n]!
  have h3 := h L[n]! (bang_mem (by omega))
  have h4 : (if 0 < n then [(32 : UInt8)] else []).length ≤ 1 := by split <;> simp
  rw [wrL_succ, List.length_append, List.length_append]
  omega
set_option maxHeartbeats 2000000 in
theorem Write_ok {H : GHeap} (hw : H.wf) {v fv : Value} {n : Int} {L : List Fd} (hv : IsSl v 1) (hr : H.rdn (blk v) (ofs v) 2 = some (.agg #[.int .i64 n, fv])) (hvb : blk v < H.len) (hf : FRd H fv L) (hl : L.length ≤ 1000) (hL : L ≠ []) (ht : ∀ f ∈ L, f.t.length ≤ 1048576) :
  ∃ r H', gev G 27 [v] H = some (r, H') ∧ (r = .string (strB (wrL L L.length ++ [10])) ∧ Same H H') := by
 refine gev_GW (f := 27) rfl fun Post hPost => ?_
 have hlim := hw.1
 have hB0 := Bld.new hw
 have hl1 : (H.add (some (.cells [.pointer none, .slice none 0 0] 258 true))).len = H.len + 1 := len_add
 have hself : self H.len = .pointer (some ⟨H.len, 0, none⟩) := rfl
 have hff := hf.flat
 have hpos := List.length_pos_iff.2 hL
 simp only [frameOf, Nat.reduceAdd]
 repeat' (first | (exfalso; omega) | refine zn ?_ | refine zK rfl ?_ | refine zP rfl ?_ | ((first | refine zm ?_ | skip); intro _; intros; simp (disch := first | exact zd | fail) only [↓yS, yT, gresults, gone, ↓reduceIte, Nat.reduceEqDiff, Nat.reduceAdd, Nat.reduceMul, reduceCtorEq, Int.reduceToNat, g27, hv.len]; first | (rename_i K k; (first | refine yC (k _ _ ?_) | refine zg (k _ ?_)); clear k K) | (rename_i A B C D a b c d; (first | refine zx (a ?_) | refine zy (b ?_) | refine zz (fun hc => c ?_) (fun hc => d ?_) | refine zv (b ?_) | refine zw (a ?_)) <;> clear a b c d A B C D <;> try simp only [yL] at hc)) | refine zA ?_ | refine zB ?_ | refine zF ?_)
 rw [← hself]
 generalize H.add (some (.cells [.pointer none, .slice none 0 0] 258 true)) = H1 at *
 generalize hb : H.len = b at hB0 hself hl1 ⊢
 refine GW_loop (fun k fr H2 => ∃ (i : Nat), k = 1 - i ∧ i ≤ 1 ∧ fr.get 3 = some (self b) ∧ fr.get 10 = some (v) ∧ fr.get 11 = some (.int .i64 1) ∧ fr.get 12 = some (.int .i64 i) ∧ Bld H H2 b (if i = 0 then [] else wrL L L.length ++ [10]) ∧ b < H2.len) ?_ 1 ?_
 rotate_left
 ·refine ⟨0, by omega, by omega, ?_⟩
  simp only [↓yG, Nat.reduceEqDiff, ↓reduceIte, Int.natCast_add, Int.cast_ofNat_Int, Int.natCast_zero, true_and, and_true, Option.some.injEq, Value.int.injEq]
  exact ⟨hB0, by omega⟩
 rintro k fr H2 ⟨i, rfl, hi, f3, f10, f11, f12, hB, hb2⟩ J hJ
 have hS2 := hB.same
 have hw2 := hS2.wf
 have hlim2 := hw2.1
 by_cases hi1 : i = 0
 case neg =>
  obtain rfl : i = 1 := by omega
  rw [if_neg (by decide)] at hB
  have hwl := wrL_len ht L.length (Nat.le_refl _)
  repeat' (first | (exfalso; omega) | refine zn ?_ | refine zK rfl ?_ | refine zP rfl ?_ | ((first | refine zm ?_ | skip); intro _; intros; simp (disch := first | exact zd | fail) only [↓yS, yT, gresults, gone, ↓reduceIte, Nat.reduceEqDiff, Nat.reduceAdd, Nat.reduceMul, reduceCtorEq, Int.reduceToNat, g27, f3, f10, f11, f12]; first | (rename_i K k; (first | refine yC (k _ _ ?_) | refine zg (k _ ?_)); clear k K) | (rename_i A B C D a b c d; (first | refine zx (a ?_) | refine zy (b ?_) | refine zz (fun hc => c ?_) (fun hc => d ?_) | refine zv (b ?_) | refine zw (a ?_)) <;> clear a b c d A B C D <;> try simp only [yL] at hc)) | refine zA ?_ | refine zB ?_ | refine zF ?_)
  refine Gw_s fun K' hK' => G1_call (by simp only [gtarget, ↓GArg.ev, ↓evs, ↓Tr.get_set, Nat.reduceEqDiff, if_true, if_false, ↓reduceIte, Option.map_some, f3, f10, f11, f12]; rfl) (string_ok hB (by simp only [List.length_append, List.length_cons, List.length_nil]; omega)) fun r3 H3 hq => hK' _ _ ?_
  obtain ⟨rfl, hS3⟩ := hq
  repeat' (first | (exfalso; omega) | refine zn ?_ | refine zK rfl ?_ | refine zP rfl ?_ | ((first | refine zm ?_ | skip); intro _; intros; simp (disch := first | exact zd | fail) only [↓yS, yT, gresults, gone, ↓reduceIte, Nat.reduceEqDiff, Nat.reduceAdd, Nat.reduceMul, reduceCtorEq, Int.reduceToNat, g27, f3, f10, f11, f12]; first | (rename_i K k; (first | refine yC (k _ _ ?_) | refine zg (k _ ?_)); clear k K) | (rename_i A B C D a b c d; (first | refine zx (a ?_) | refine zy (b ?_) | refine zz (fun hc => c ?_) (fun hc => d ?_) | refine zv (b ?_) | refine zw (a ?_)) <;> clear a b c d A B C D <;> try simp only [yL] at hc)) | refine zA ?_ | refine zB ?_ | refine zF ?_)
  exact hPost _ _ ⟨rfl, hS3⟩
 subst hi1
 rw [if_pos rfl] at hB
 have f12 : fr.get 12 = some (.int .i64 0) := f12
 have hr2 : H2.rdn (blk v) (ofs v) 2 = some (.agg #[.int .i64 n, fv]) := by rw [hS2.rdn hvb]; exact hr
 have hlv := gsetn_all (cs := [.int .i64 0, .slice none 0 0]) (n := 2) (vs := #[.int .i64 n, fv]) rfl rfl (by
  show ([.int .i64 n, fv] : List Value).all flatV = true
  simp only [List.all_cons, List.all_nil, hff]; rfl)
 have hSn : Same H2 ((H2.add (some (.cells [.int .i64 0, .slice none 0 0] 0 true))).put H2.len (.cells [.int .i64 n, fv] 0 true)) := (Same.refl hw2).new _ _
 have hm5 : ((H2.add (some (.cells [.int .i64 0, .slice none 0 0] 0 true))).put H2.len (.cells [.int .i64 n, fv] 0 true)).mine H2.len = some ([.int .i64 n, fv], 0) := mine_put_same (by simp only [lim_add]; omega)
 have hsl := hf.rd.isSl
 have hi0 : ∀ k, gia none 2 v (.int k 0) = some (.pointer (some ⟨blk v, ofs v, none⟩)) := fun k => by
  have := hv.ia (k := k) (size := 2) (j := 0) (by omega) (by omega)
  simpa using this
 repeat' (first | (exfalso; omega) | refine zn ?_ | refine zK rfl ?_ | refine zP rfl ?_ | ((first | refine zm ?_ | skip); intro _; intros; simp (disch := first | exact zd | fail) only [↓yS, yT, gresults, gone, ↓reduceIte, Nat.reduceEqDiff, Nat.reduceAdd, Nat.reduceMul, reduceCtorEq, Int.reduceToNat, g27, f3, f10, f11, f12, hi0, hr2, hlv, hsl.len]; first | (rename_i K k; (first | refine yC (k _ _ ?_) | refine zg (k _ ?_)); clear k K) | (rename_i A B C D a b c d; (first | refine zx (a ?_) | refine zy (b ?_) | refine zz (fun hc => c ?_) (fun hc => d ?_) | refine zv (b ?_) | refine zw (a ?_)) <;> clear a b c d A B C D <;> try simp only [yL] at hc)) | refine zA ?_ | refine zB ?_ | refine zF ?_)
 have hB3 := hB.later hSn
 have hl3 : ((H2.add (some (.cells [.int .i64 0, .slice none 0 0] 0 true))).put H2.len (.cells [.int .i64 n, fv] 0 true)).len = H2.len + 1 := by simp only [len_put, len_add]
 generalize ((H2.add (some (.cells [.int .i64 0, .slice none 0 0] 0 true))).put H2.len (.cells [.int .i64 n, fv] 0 true)) = H3 at *
 generalize ha5 : H2.len = a5 at *
 refine GW_loop (fun k fr H4 => ∃ (j : Nat), k = L.length - j ∧ j ≤ L.length ∧ fr.get 3 = some (self b) ∧ fr.get 5 = some (.pointer (some ⟨a5, 0, none⟩)) ∧ fr.get 10 = some (v) ∧ fr.get 11 = some (.int .i64 1) ∧ fr.get 12 = some (.int .i64 0) ∧ fr.get 17 = some (fv) ∧ fr.get 18 = some (.int .i64 L.length) ∧ fr.get 19 = some (.int .i64 j) ∧ Bld H H4 b (wrL L j) ∧ H4.mine a5 = some ([.int .i64 n, fv], 0)) ?_ L.length ?_
 rotate_left
 ·refine ⟨0, by omega, by omega, ?_⟩
  simp only [↓yG, Nat.reduceEqDiff, ↓reduceIte, Int.natCast_add, Int.cast_ofNat_Int, Int.natCast_zero, true_and, and_true, Option.some.injEq, Value.int.injEq, f3, f10, f11, f12]
  exact ⟨hB3, hm5⟩
 rintro k fr H4 ⟨j, rfl, hj, i3, i5, i10, i11, i12, i17, i18, i19, hB4, hm4⟩ J2 hJ2
 have hS4 := hB4.same
 have hw4 := hS4.wf
 have hlim4 := hw4.1
 have hwl := wrL_len ht j hj
 by_cases hj1 : j < L.length
 case neg =>
  obtain rfl : j = L.length := by omega
  have hr5 : H4.rd a5 1 = some fv := mine_rd hm4
  have hpz : (0 : Int) < L.length := by omega
  repeat' (first | (exfalso; omega) | refine zn ?_ | refine zK rfl ?_ | refine zP rfl ?_ | ((first | refine zm ?_ | skip); intro _; intros; simp (disch := first | exact zd | fail) only [↓yS, yT, gresults, gone, ↓reduceIte, Nat.reduceEqDiff, Nat.reduceAdd, Nat.reduceMul, reduceCtorEq, Int.reduceToNat, g27, i3, i5, i10, i11, i12, i17, i18, i19, hr5, hsl.len]; first | (rename_i K k; (first | refine yC (k _ _ ?_) | refine zg (k _ ?_)); clear k K) | (rename_i A B C D a b c d; (first | refine zx (a ?_) | refine zy (b ?_) | refine zz (fun hc => c ?_) (fun hc => d ?_) | refine zv (b ?_) | refine zw (a ?_)) <;> clear a b c d A B C D <;> try simp only [yL] at hc)) | refine zA ?_ | refine zB ?_ | refine zF ?_)
  have h10 : (10 : Int) = (((10 : UInt8).toNat : Nat) : Int) := rfl
  refine Gw_s fun K' hK' => G1_call (by simp only [gtarget, ↓GArg.ev, ↓evs, ↓Tr.get_set, Nat.reduceEqDiff, if_true, if_false, ↓reduceIte, Option.map_some, i3, i5, i10, i11, i12, i17, i18, i19]; rfl) (writeB_ok hB4 (10 : UInt8) (by omega)) fun r6 H6 hq => hK' _ _ ?_
  obtain ⟨hB6, hK6⟩ := hq
  repeat' (first | (exfalso; omega) | refine zn ?_ | refine zK rfl ?_ | refine zP rfl ?_ | ((first | refine zm ?_ | skip); intro _; intros; simp (disch := first | exact zd | fail) only [↓yS, yT, gresults, gone, ↓reduceIte, Nat.reduceEqDiff, Nat.reduceAdd, Nat.reduceMul, reduceCtorEq, Int.reduceToNat, g27, i3, i5, i10, i11, i12, i17, i18, i19]; first | (rename_i K k; (first | refine yC (k _ _ ?_) | refine zg (k _ ?_)); clear k K) | (rename_i A B C D a b c d; (first | refine zx (a ?_) | refine zy (b ?_) | refine zz (fun hc => c ?_) (fun hc => d ?_) | refine zv (b ?_) | refine zw (a ?_)) <;> clear a b c d A B C D <;> try simp only [yL] at hc)) | refine zA ?_ | refine zB ?_ | refine zF ?_)
  refine hJ _ _ ⟨0, by omega, 1, rfl, by omega, ?_⟩
  simp only [↓yG, Nat.reduceEqDiff, ↓reduceIte, Int.natCast_add, Int.cast_ofNat_Int, Int.natCast_zero, true_and, and_true, Option.some.injEq, Value.int.injEq, i3, i5, i10, i11, i12, i17, i18, i19]
  exact ⟨rfl, hB6, by have := hB6.ex; obtain ⟨_, _, hm, _, hO, _⟩ := this; exact mine_lt hO.same.wf hm⟩
 have ef := FRd.rowN (GArg1.same hf hw hS4) hj1
 have hws := wrL_succ L j
 have htm := ht _ (bang_mem hj1)
 unfold fdV at ef
 generalize hfj : L[j]! = f at *
 have hgf := gsetn_fd (f := f)
 unfold fdV at hgf
 have hSf : Same H4 ((H4.add (some (.cells [.string ⟨#[]⟩, .int .i64 0, .bool false] 0 true))).put H4.len (.cells (fdC f) 0 true)) := (Same.refl hw4).new _ _
 have hm7 : ((H4.add (some (.cells [.string ⟨#[]⟩, .int .i64 0, .bool false] 0 true))).put H4.len (.cells (fdC f) 0 true)).mine H4.len = some (fdC f, 0) := mine_put_same (by simp only [lim_add]; omega)
 have hm5f : ((H4.add (some (.cells [.string ⟨#[]⟩, .int .i64 0, .bool false] 0 true))).put H4.len (.cells (fdC f) 0 true)).mine a5 = some ([.int .i64 n, fv], 0) := by rw [hSf.mine (mine_lt hw4 hm4)]; exact hm4
 have hB5 := hB4.later hSf
 have hfin : ∀ (r : Value) fr H9, fr.get 3 = some (self b) → fr.get 5 = some (.pointer (some ⟨a5, 0, none⟩)) → fr.get 10 = some v → fr.get 11 = some (.int .i64 1) → fr.get 12 = some (.int .i64 0) → fr.get 17 = some fv → fr.get 18 = some (.int .i64 L.length) → fr.get 19 = some (.int .i64 ((j : Int) + 1)) → Bld H H9 b (wrL L (j + 1)) → H9.mine a5 = some ([.int .i64 n, fv], 0) → J2 fr H9 := fun r fr H9 a1 a2 a3 a4 a5 a6 a7 a8 a9 a10 => hJ2 _ _ ⟨L.length - (j + 1), by omega, j + 1, rfl, by omega, a1, a2, a3, a4, a5, a6, a7, by rw [a8]; rfl, a9, a10⟩
 clear hJ2
 have fd0 : (fdC f)[0]? = some (.string (strB f.t)) := rfl
 have fd2 : (fdC f)[2]? = some (.bool f.q) := rfl
 -- what comes behind the blank
 have hrest : ∀ H5, Bld H H5 b (wrL L j ++ (if 0 < j then ([32] : List UInt8) else [])) → H5.mine H4.len = some (fdC f, 0) → H5.mine a5 = some ([.int .i64 n, fv], 0) → H5.rd H4.len 0 = some (.string (strB f.t)) ∧ H5.rd H4.len 2 = some (.bool f.q) := fun H5 _ h7 _ => ⟨mine_rd h7, mine_rd h7⟩
 have hlsz := strB_size f.t
 have hB5' : ∀ H5, Bld H H5 b (wrL L j ++ (if 0 < j then ([32] : List UInt8) else [])) → ∃ r H6, gev G 54 [self b, .string (strB (wf1 f))] H5 = some (r, H6) ∧ Bld H H6 b (wrL L (j + 1)) ∧ KeepU H5 H6 := fun H5 h5 => by
  have hwf := wf1_len f
  have h4 : (if 0 < j then [(32 : UInt8)] else []).length ≤ 1 := by split <;> simp
  obtain ⟨r, H6, e1, e2, e3⟩ := writeS_ok h5 (wf1 f) (by rw [List.length_append]; omega)
  exact ⟨r, H6, e1, by rw [hws]; exact e2, e3⟩
 by_cases hj0 : 0 < j
 rw [if_pos hj0] at hB5'
 repeat' (first | (exfalso; omega) | refine zn ?_ | refine zK rfl ?_ | refine zP rfl ?_ | ((first | refine zm ?_ | skip); intro _; intros; simp (disch := first | exact zd | fail) only [↓yS, yT, gresults, gone, ↓reduceIte, Nat.reduceEqDiff, Nat.reduceAdd, Nat.reduceMul, reduceCtorEq, Int.reduceToNat, g27, i3, i5, i10, i11, i12, i17, i18, i19, hsl.ia, ef, hgf]; first | (rename_i K k; (first | refine yC (k _ _ ?_) | refine zg (k _ ?_)); clear k K) | (rename_i A B C D a b c d; (first | refine zx (a ?_) | refine zy (b ?_) | refine zz (fun hc => c ?_) (fun hc => d ?_) | refine zv (b ?_) | refine zw (a ?_)) <;> clear a b c d A B C D <;> try simp only [yL] at hc)) | refine zA ?_ | refine zB ?_ | refine zF ?_)
 refine Gw_s fun K' hK' => G1_call (by simp only [gtarget, ↓GArg.ev, ↓evs, ↓Tr.get_set, Nat.reduceEqDiff, if_true, if_false, ↓reduceIte, Option.map_some, i3, i5, i10, i11, i12, i17, i18, i19]; rfl) (writeB_ok hB5 (32 : UInt8) (by omega)) fun r6 H6 hq => hK' _ _ ?_
 obtain ⟨hB6, hK6⟩ := hq
 have hm7' := hK6 _ _ _ hm7 (by decide) (by decide)
 have hm5' := hK6 _ _ _ hm5f (by decide) (by decide)
 rotate_left
 rw [if_neg hj0, List.append_nil] at hB5'
 repeat' (first | (exfalso; omega) | refine zn ?_ | refine zK rfl ?_ | refine zP rfl ?_ | ((first | refine zm ?_ | skip); intro _; intros; simp (disch := first | exact zd | fail) only [↓yS, yT, gresults, gone, ↓reduceIte, Nat.reduceEqDiff, Nat.reduceAdd, Nat.reduceMul, reduceCtorEq, Int.reduceToNat, g27, i3, i5, i10, i11, i12, i17, i18, i19, hsl.ia, ef, hgf, fd0]; first | (rename_i K k; (first | refine yC (k _ _ ?_) | refine zg (k _ ?_)); clear k K) | (rename_i A B C D a b c d; (first | refine zx (a ?_) | refine zy (b ?_) | refine zz (fun hc => c ?_) (fun hc => d ?_) | refine zv (b ?_) | refine zw (a ?_)) <;> clear a b c d A B C D <;> try simp only [yL] at hc)) | refine zA ?_ | refine zB ?_ | refine zF ?_)
 have hm7' := hm7
 have hm5' := hm5f
 have hB6 := hB5
 generalize ((H4.add (some (.cells [.string ⟨#[]⟩, .int .i64 0, .bool false] 0 true))).put H4.len (.cells (fdC f) 0 true)) = H6 at *
 all_goals
  have e7 : H6.rd H4.len 0 = some (.string (strB f.t)) := mine_rd hm7'
  have e72 : H6.rd H4.len 2 = some (.bool f.q) := mine_rd hm7'
  generalize H4.len = a7 at *
  repeat' (first | (exfalso; omega) | refine zn ?_ | refine zK rfl ?_ | refine zP rfl ?_ | ((first | refine zm ?_ | skip); intro _; intros; simp (disch := first | exact zd | fail) only [↓yS, yT, gresults, gone, ↓reduceIte, Nat.reduceEqDiff, Nat.reduceAdd, Nat.reduceMul, reduceCtorEq, Int.reduceToNat, g27, i3, i5, i10, i11, i12, i17, i18, i19, e7]; first | (rename_i K k; (first | refine yC (k _ _ ?_) | refine zg (k _ ?_)); clear k K) | (rename_i A B C D a b c d; (first | refine zx (a ?_) | refine zy (b ?_) | refine zz (fun hc => c ?_) (fun hc => d ?_) | refine zv (b ?_) | refine zw (a ?_)) <;> clear a b c d A B C D <;> try simp only [yL] at hc)) | refine zA ?_ | refine zB ?_ | refine zF ?_)
  refine Gw_s fun K' hK' => G1_call (by simp only [gtarget, ↓GArg.ev, ↓evs, ↓Tr.get_set, Nat.reduceEqDiff, if_true, if_false, ↓reduceIte, Option.map_some, i3, i5, i10, i11, i12, i17, i18, i19]; rfl) (one_of (word_ok (l := f.t) (by omega) _)) fun r8 H8 hq8 => hK' _ _ ?_
  obtain ⟨rfl, rfl⟩ := hq8
  have hwf : ∀ X : QR, wordQ f.t = X → wf1 f = (match X with | .ok _ j => if f.q = true ∨ f.t = [] ∨ ¬ j = f.t.length then quoF f.t else f.t | .bad _ => quoF f.t) := fun X e => by unfold wf1; rw [e]
  cases hR : wordQ f.t with
  | bad i =>
   have hwq : wf1 f = quoF f.t := hwf _ hR
   rw [hwq] at hB5'
   simp only [wrV]
   repeat' (first | (exfalso; omega) | refine zn ?_ | refine zK rfl ?_ | refine zP rfl ?_ | ((first | refine zm ?_ | skip); intro _; intros; simp (disch := first | exact zd | fail) only [↓yS, yT, gresults, gone, ↓reduceIte, Nat.reduceEqDiff, Nat.reduceAdd, Nat.reduceMul, reduceCtorEq, Int.reduceToNat, g27, i3, i5, i10, i11, i12, i17, i18, i19, e7, e72, eqE, hlsz]; first | (rename_i K k; (first | refine yC (k _ _ ?_) | refine zg (k _ ?_)); clear k K) | (rename_i A B C D a b c d; (first | refine zx (a ?_) | refine zy (b ?_) | refine zz (fun hc => c ?_) (fun hc => d ?_) | refine zv (b ?_) | refine zw (a ?_)) <;> clear a b c d A B C D <;> try simp only [yL] at hc)) | refine zA ?_ | refine zB ?_ | refine zF ?_)
   all_goals
    refine Gw_s fun K' hK' => G1_call (by simp only [gtarget, ↓GArg.ev, ↓evs, ↓Tr.get_set, Nat.reduceEqDiff, if_true, if_false, ↓reduceIte, Option.map_some, i3, i5, i10, i11, i12, i17, i18, i19]; rfl) (one_of (Quote_ok (l := f.t) (by omega) _)) fun r8 H8 hq8 => hK' _ _ ?_
    obtain ⟨rfl, rfl⟩ := hq8
    repeat' (first | (exfalso; omega) | refine zn ?_ | refine zK rfl ?_ | refine zP rfl ?_ | ((first | refine zm ?_ | skip); intro _; intros; simp (disch := first | exact zd | fail) only [↓yS, yT, gresults, gone, ↓reduceIte, Nat.reduceEqDiff, Nat.reduceAdd, Nat.reduceMul, reduceCtorEq, Int.reduceToNat, g27, i3, i5, i10, i11, i12, i17, i18, i19]; first | (rename_i K k; (first | refine yC (k _ _ ?_) | refine zg (k _ ?_)); clear k K) | (rename_i A B C D a b c d; (first | refine zx (a ?_) | refine zy (b ?_) | refine zz (fun hc => c ?_) (fun hc => d ?_) | refine zv (b ?_) | refine zw (a ?_)) <;> clear a b c d A B C D <;> try simp only [yL] at hc)) | refine zA ?_ | refine zB ?_ | refine zF ?_)
    refine Gw_s fun K' hK' => G1_call (by simp only [gtarget, ↓GArg.ev, ↓evs, ↓Tr.get_set, Nat.reduceEqDiff, if_true, if_false, ↓reduceIte, Option.map_some, i3, i5, i10, i11, i12, i17, i18, i19]; rfl) (hB5' _ hB6) fun r9 H9 hq9 => hK' _ _ ?_
    obtain ⟨hB9, hK9⟩ := hq9
    have hm9 := hK9 _ _ _ hm5' (by decide) (by decide)
    repeat' (first | (exfalso; omega) | refine zn ?_ | refine zK rfl ?_ | refine zP rfl ?_ | ((first | refine zm ?_ | skip); intro _; intros; simp (disch := first | exact zd | fail) only [↓yS, yT, gresults, gone, ↓reduceIte, Nat.reduceEqDiff, Nat.reduceAdd, Nat.reduceMul, reduceCtorEq, Int.reduceToNat, g27, i3, i5, i10, i11, i12, i17, i18, i19]; first | (rename_i K k; (first | refine yC (k _ _ ?_) | refine zg (k _ ?_)); clear k K) | (rename_i A B C D a b c d; (first | refine zx (a ?_) | refine zy (b ?_) | refine zz (fun hc => c ?_) (fun hc => d ?_) | refine zv (b ?_) | refine zw (a ?_)) <;> clear a b c d A B C D <;> try simp only [yL] at hc)) | refine zA ?_ | refine zB ?_ | refine zF ?_)
    refine hfin (.bool true) _ _ ?_ ?_ ?_ ?_ ?_ ?_ ?_ ?_ hB9 hm9
    all_goals (simp only [↓yG, Nat.reduceEqDiff, ↓reduceIte, Int.natCast_add, Int.cast_ofNat_Int, Int.natCast_zero, true_and, and_true, Option.some.injEq, Value.int.injEq, i3, i5, i10, i11, i12, i17, i18, i19])
  | ok t' j' =>
   have hwq := hwf _ hR
   simp only [wrV]
   simp only at hwq
   by_cases hall : f.q = true ∨ f.t = [] ∨ ¬ j' = f.t.length
   ·rw [if_pos hall] at hwq
    rw [hwq] at hB5'
    have h3 : f.q = true ∨ (f.q = false ∧ f.t = []) ∨ (f.q = false ∧ ¬ f.t = [] ∧ ¬ j' = f.t.length) := by
     rcases hall with h | h | h
     ·exact .inl h
     ·cases hq : f.q with
      | true => exact .inl rfl
      | false => exact .inr (.inl ⟨rfl, h⟩)
     ·cases hq : f.q with
      | true => exact .inl rfl
      | false =>
       by_cases ht0 : f.t = []
       ·exact .inr (.inl ⟨rfl, ht0⟩)
       ·exact .inr (.inr ⟨rfl, ht0, h⟩)
    rcases h3 with hq1 | ⟨hq1, hq2⟩ | ⟨hq1, hq2, hq3⟩
    all_goals
     rw [hq1] at e72
     first | (have hq2' := eq_false hq2) | (have hq2' := eq_true hq2) | (have hq2' : True := trivial)
     repeat' (first | (exfalso; omega) | refine zn ?_ | refine zK rfl ?_ | refine zP rfl ?_ | ((first | refine zm ?_ | skip); intro _; intros; simp (disch := first | exact zd | fail) only [↓yS, yT, gresults, gone, ↓reduceIte, Nat.reduceEqDiff, Nat.reduceAdd, Nat.reduceMul, reduceCtorEq, Int.reduceToNat, g27, i3, i5, i10, i11, i12, i17, i18, i19, e7, e72, eqE, hq2', decide_true, decide_false, hlsz]; first | (rename_i K k; (first | refine yC (k _ _ ?_) | refine zg (k _ ?_)); clear k K) | (rename_i A B C D a b c d; (first | refine zx (a ?_) | refine zy (b ?_) | refine zz (fun hc => c ?_) (fun hc => d ?_) | refine zv (b ?_) | refine zw (a ?_)) <;> clear a b c d A B C D <;> try simp only [yL] at hc)) | refine zA ?_ | refine zB ?_ | refine zF ?_)
     refine Gw_s fun K' hK' => G1_call (by simp only [gtarget, ↓GArg.ev, ↓evs, ↓Tr.get_set, Nat.reduceEqDiff, if_true, if_false, ↓reduceIte, Option.map_some, i3, i5, i10, i11, i12, i17, i18, i19]; rfl) (one_of (Quote_ok (l := f.t) (by omega) _)) fun r8 H8 hq8 => hK' _ _ ?_
     obtain ⟨rfl, rfl⟩ := hq8
     repeat' (first | (exfalso; omega) | refine zn ?_ | refine zK rfl ?_ | refine zP rfl ?_ | ((first | refine zm ?_ | skip); intro _; intros; simp (disch := first | exact zd | fail) only [↓yS, yT, gresults, gone, ↓reduceIte, Nat.reduceEqDiff, Nat.reduceAdd, Nat.reduceMul, reduceCtorEq, Int.reduceToNat, g27, i3, i5, i10, i11, i12, i17, i18, i19]; first | (rename_i K k; (first | refine yC (k _ _ ?_) | refine zg (k _ ?_)); clear k K) | (rename_i A B C D a b c d; (first | refine zx (a ?_) | refine zy (b ?_) | refine zz (fun hc => c ?_) (fun hc => d ?_) | refine zv (b ?_) | refine zw (a ?_)) <;> clear a b c d A B C D <;> try simp only [yL] at hc)) | refine zA ?_ | refine zB ?_ | refine zF ?_)
     refine Gw_s fun K' hK' => G1_call (by simp only [gtarget, ↓GArg.ev, ↓evs, ↓Tr.get_set, Nat.reduceEqDiff, if_true, if_false, ↓reduceIte, Option.map_some, i3, i5, i10, i11, i12, i17, i18, i19]; rfl) (hB5' _ hB6) fun r9 H9 hq9 => hK' _ _ ?_
     obtain ⟨hB9, hK9⟩ := hq9
     have hm9 := hK9 _ _ _ hm5' (by decide) (by decide)
     repeat' (first | (exfalso; omega) | refine zn ?_ | refine zK rfl ?_ | refine zP rfl ?_ | ((first | refine zm ?_ | skip); intro _; intros; simp (disch := first | exact zd | fail) only [↓yS, yT, gresults, gone, ↓reduceIte, Nat.reduceEqDiff, Nat.reduceAdd, Nat.reduceMul, reduceCtorEq, Int.reduceToNat, g27, i3, i5, i10, i11, i12, i17, i18, i19]; first | (rename_i K k; (first | refine yC (k _ _ ?_) | refine zg (k _ ?_)); clear k K) | (rename_i A B C D a b c d; (first | refine zx (a ?_) | refine zy (b ?_) | refine zz (fun hc => c ?_) (fun hc => d ?_) | refine zv (b ?_) | refine zw (a ?_)) <;> clear a b c d A B C D <;> try simp only [yL] at hc)) | refine zA ?_ | refine zB ?_ | refine zF ?_)
     refine hfin (.bool true) _ _ ?_ ?_ ?_ ?_ ?_ ?_ ?_ ?_ hB9 hm9
     all_goals (simp only [↓yG, Nat.reduceEqDiff, ↓reduceIte, Int.natCast_add, Int.cast_ofNat_Int, Int.natCast_zero, true_and, and_true, Option.some.injEq, Value.int.injEq, i3, i5, i10, i11, i12, i17, i18, i19])
   ·rw [if_neg hall] at hwq
    rw [hwq] at hB5'
    have hq1 : f.q = false := by cases h : f.q with
     | false => rfl
     | true => exact absurd (.inl h) hall
    have hq2 : ¬ f.t = [] := fun h => hall (.inr (.inl h))
    have hq3 : j' = f.t.length := Decidable.of_not_not fun h => hall (.inr (.inr h))
    have hq2' := eq_false hq2
    rw [hq1] at e72
    repeat' (first | (exfalso; omega) | refine zn ?_ | refine zK rfl ?_ | refine zP rfl ?_ | ((first | refine zm ?_ | skip); intro _; intros; simp (disch := first | exact zd | fail) only [↓yS, yT, gresults, gone, ↓reduceIte, Nat.reduceEqDiff, Nat.reduceAdd, Nat.reduceMul, reduceCtorEq, Int.reduceToNat, g27, i3, i5, i10, i11, i12, i17, i18, i19, e7, e72, eqE, hq2', decide_false, hlsz]; first | (rename_i K k; (first | refine yC (k _ _ ?_) | refine zg (k _ ?_)); clear k K) | (rename_i A B C D a b c d; (first | refine zx (a ?_) | refine zy (b ?_) | refine zz (fun hc => c ?_) (fun hc => d ?_) | refine zv (b ?_) | refine zw (a ?_)) <;> clear a b c d A B C D <;> try simp only [yL] at hc)) | refine zA ?_ | refine zB ?_ | refine zF ?_)
    refine Gw_s fun K' hK' => G1_call (by simp only [gtarget, ↓GArg.ev, ↓evs, ↓Tr.get_set, Nat.reduceEqDiff, if_true, if_false, ↓reduceIte, Option.map_some, i3, i5, i10, i11, i12, i17, i18, i19]; rfl) (hB5' _ hB6) fun r9 H9 hq9 => hK' _ _ ?_
    obtain ⟨hB9, hK9⟩ := hq9
    have hm9 := hK9 _ _ _ hm5' (by decide) (by decide)
    repeat' (first | (exfalso; omega) | refine zn ?_ | refine zK rfl ?_ | refine zP rfl ?_ | ((first | refine zm ?_ | skip); intro _; intros; simp (disch := first | exact zd | fail) only [↓yS, yT, gresults, gone, ↓reduceIte, Nat.reduceEqDiff, Nat.reduceAdd, Nat.reduceMul, reduceCtorEq, Int.reduceToNat, g27, i3, i5, i10, i11, i12, i17, i18, i19]; first | (rename_i K k; (first | refine yC (k _ _ ?_) | refine zg (k _ ?_)); clear k K) | (rename_i A B C D a b c d; (first | refine zx (a ?_) | refine zy (b ?_) | refine zz (fun hc => c ?_) (fun hc => d ?_) | refine zv (b ?_) | refine zw (a ?_)) <;> clear a b c d A B C D <;> try simp only [yL] at hc)) | refine zA ?_ | refine zB ?_ | refine zF ?_)
    refine hfin (.bool true) _ _ ?_ ?_ ?_ ?_ ?_ ?_ ?_ ?_ hB9 hm9
    all_goals (simp only [↓yG, Nat.reduceEqDiff, ↓reduceIte, Int.natCast_add, Int.cast_ofNat_Int, Int.natCast_zero, true_and, and_true, Option.some.injEq, Value.int.injEq, i3, i5, i10, i11, i12, i17, i18, i19])
end Go.Gh
