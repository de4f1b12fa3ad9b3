/-
 glossary and its reference, walked: alike, like, Check.
-/
import Derived.Test.YtfldcmeecpgpeaaGreatDoorGlW3
import Derived.Test.YtfldcmeecpgpeaaGreatDoorGlP3
namespace Go.Gh
set_option linter.unusedSimpArgs false
set_option linter.unusedVariables false
set_option maxHeartbeats 4000000
open Go.RowKit Go.Lib
set_option maxRecDepth 4000
theorem alike_ok {a b : List UInt8} (ha : a.length ≤ 16777216) (hb : b.length ≤ 16777216) (H : GHeap) : gev G 18 [.string (strB a), .string (strB b)] H = some (.bool (alkB a b), H) := by
 refine gev_GWP (f := 18) rfl rfl rfl (fun Post hPost => ?_) H
 unfold alkB at hPost
 simp only [frameOf, Nat.reduceAdd]
 repeat' (first | refine zn ?_ | refine zK rfl ?_ | refine zP rfl ?_ | ((first | refine zm ?_ | skip); intro _; intros; simp (disch := first | exact zd | fail) only [↓yS, yT, gresults, gone, ↓reduceIte, Nat.reduceEqDiff, Nat.reduceAdd, Nat.reduceMul, reduceCtorEq, Int.reduceToNat, g18]; first | (rename_i K k; (first | refine yC (k _ _ ?_) | refine zg (k _ ?_)); clear k K) | (rename_i A B C D a b c d; (first | refine zx (a ?_) | refine zy (b ?_) | refine zz (fun hc => c ?_) (fun hc => d ?_) | refine zv (b ?_) | refine zw (a ?_)) <;> clear a b c d A B C D <;> try simp only [yL] at hc)) | refine zA ?_ | refine zB ?_ | refine zF ?_)
 refine Gw_s fun K' hK' => G1_call (by simp only [gtarget, ↓GArg.ev, ↓evs, ↓Tr.get_set, Nat.reduceEqDiff, if_true, if_false, ↓reduceIte, Option.map_some]; rfl) (one_of (valid_ok (s := strB a) (by rw [strB_size]; omega) _)) fun r1 H1 hq => hK' _ _ ?_
 obtain ⟨rfl, rfl⟩ := hq
 cases hva : vldB (strB a) with
 | false =>
  rw [hva, Bool.false_and, Bool.false_and] at hPost
  repeat' (first | (exfalso; omega) | refine zn ?_ | refine zK rfl ?_ | refine zP rfl ?_ | ((first | refine zm ?_ | skip); intro _; intros; simp (disch := first | exact zd | fail) only [↓yS, yT, gresults, gone, ↓reduceIte, Nat.reduceEqDiff, Nat.reduceAdd, Nat.reduceMul, reduceCtorEq, Int.reduceToNat, g18]; first | (rename_i K k; (first | refine yC (k _ _ ?_) | refine zg (k _ ?_)); clear k K) | (rename_i A B C D a b c d; (first | refine zx (a ?_) | refine zy (b ?_) | refine zz (fun hc => c ?_) (fun hc => d ?_) | refine zv (b ?_) | refine zw (a ?_)) <;> clear a b c d A B C D <;> try simp only [yL] at hc)) | refine zA ?_ | refine zB ?_ | refine zF ?_)
  exact hPost _
 | true =>
 rw [hva, Bool.true_and] at hPost
 repeat' (first | (exfalso; omega) | refine zn ?_ | refine zK rfl ?_ | refine zP rfl ?_ | ((first | refine zm ?_ | skip); intro _; intros; simp (disch := first | exact zd | fail) only [↓yS, yT, gresults, gone, ↓reduceIte, Nat.reduceEqDiff, Nat.reduceAdd, Nat.reduceMul, reduceCtorEq, Int.reduceToNat, g18]; first | (rename_i K k; (first | refine yC (k _ _ ?_) | refine zg (k _ ?_)); clear k K) | (rename_i A B C D a b c d; (first | refine zx (a ?_) | refine zy (b ?_) | refine zz (fun hc => c ?_) (fun hc => d ?_) | refine zv (b ?_) | refine zw (a ?_)) <;> clear a b c d A B C D <;> try simp only [yL] at hc)) | refine zA ?_ | refine zB ?_ | refine zF ?_)
 intro K' hK'; refine G1_call (by simp only [gtarget, ↓GArg.ev, ↓evs, ↓Tr.get_set, Nat.reduceEqDiff, if_true, if_false, ↓reduceIte, Option.map_some]; rfl) (one_of (valid_ok (s := strB b) (by rw [strB_size]; omega) _)) fun r1 H1 hq => hK' _ _ ?_
 obtain ⟨rfl, rfl⟩ := hq
 cases hvb : vldB (strB b) with
 | false =>
  rw [hvb, Bool.false_and] at hPost
  repeat' (first | (exfalso; omega) | refine zn ?_ | refine zK rfl ?_ | refine zP rfl ?_ | ((first | refine zm ?_ | skip); intro _; intros; simp (disch := first | exact zd | fail) only [↓yS, yT, gresults, gone, ↓reduceIte, Nat.reduceEqDiff, Nat.reduceAdd, Nat.reduceMul, reduceCtorEq, Int.reduceToNat, g18]; first | (rename_i K k; (first | refine yC (k _ _ ?_) | refine zg (k _ ?_)); clear k K) | (rename_i A B C D a b c d; (first | refine zx (a ?_) | refine zy (b ?_) | refine zz (fun hc => c ?_) (fun hc => d ?_) | refine zv (b ?_) | refine zw (a ?_)) <;> clear a b c d A B C D <;> try simp only [yL] at hc)) | refine zA ?_ | refine zB ?_ | refine zF ?_)
  exact hPost _
 | true =>
 rw [hvb, Bool.true_and] at hPost
 repeat' (first | (exfalso; omega) | refine zn ?_ | refine zK rfl ?_ | refine zP rfl ?_ | ((first | refine zm ?_ | skip); intro _; intros; simp (disch := first | exact zd | fail) only [↓yS, yT, gresults, gone, ↓reduceIte, Nat.reduceEqDiff, Nat.reduceAdd, Nat.reduceMul, reduceCtorEq, Int.reduceToNat, g18]; first | (rename_i K k; (first | refine yC (k _ _ ?_) | refine zg (k _ ?_)); clear k K) | (rename_i A B C D a b c d; (first | refine zx (a ?_) | refine zy (b ?_) | refine zz (fun hc => c ?_) (fun hc => d ?_) | refine zv (b ?_) | refine zw (a ?_)) <;> clear a b c d A B C D <;> try simp only [yL] at hc)) | refine zA ?_ | refine zB ?_ | refine zF ?_)
 intro K' hK'; refine G1_call (by simp only [gtarget, ↓GArg.ev, ↓evs, ↓Tr.get_set, Nat.reduceEqDiff, if_true, if_false, ↓reduceIte, Option.map_some]; rfl) (one_of (fold_ok (s := strB a) (by rw [strB_size]; omega) _)) fun r1 H1 hq => hK' _ _ ?_
 obtain ⟨rfl, rfl⟩ := hq
 repeat' (first | (exfalso; omega) | refine zn ?_ | refine zK rfl ?_ | refine zP rfl ?_ | ((first | refine zm ?_ | skip); intro _; intros; simp (disch := first | exact zd | fail) only [↓yS, yT, gresults, gone, ↓reduceIte, Nat.reduceEqDiff, Nat.reduceAdd, Nat.reduceMul, reduceCtorEq, Int.reduceToNat, g18]; first | (rename_i K k; (first | refine yC (k _ _ ?_) | refine zg (k _ ?_)); clear k K) | (rename_i A B C D a b c d; (first | refine zx (a ?_) | refine zy (b ?_) | refine zz (fun hc => c ?_) (fun hc => d ?_) | refine zv (b ?_) | refine zw (a ?_)) <;> clear a b c d A B C D <;> try simp only [yL] at hc)) | refine zA ?_ | refine zB ?_ | refine zF ?_)
 intro K' hK'; refine G1_call (by simp only [gtarget, ↓GArg.ev, ↓evs, ↓Tr.get_set, Nat.reduceEqDiff, if_true, if_false, ↓reduceIte, Option.map_some]; rfl) (one_of (fold_ok (s := strB b) (by rw [strB_size]; omega) _)) fun r1 H1 hq => hK' _ _ ?_
 obtain ⟨rfl, rfl⟩ := hq
 repeat' (first | (exfalso; omega) | refine zn ?_ | refine zK rfl ?_ | refine zP rfl ?_ | ((first | refine zm ?_ | skip); intro _; intros; simp (disch := first | exact zd | fail) only [↓yS, yT, gresults, gone, ↓reduceIte, Nat.reduceEqDiff, Nat.reduceAdd, Nat.reduceMul, reduceCtorEq, Int.reduceToNat, g18, gb_eqlB]; first | (rename_i K k; (first | refine yC (k _ _ ?_) | refine zg (k _ ?_)); clear k K) | (rename_i A B C D a b c d; (first | refine zx (a ?_) | refine zy (b ?_) | refine zz (fun hc => c ?_) (fun hc => d ?_) | refine zv (b ?_) | refine zw (a ?_)) <;> clear a b c d A B C D <;> try simp only [yL] at hc)) | refine zA ?_ | refine zB ?_ | refine zF ?_)
 exact hPost _
theorem ralike_ok {a b : List UInt8} (ha : a.length ≤ 16777216) (hb : b.length ≤ 16777216) (H : GHeap) : gev G 21 [.string (strB a), .string (strB b)] H = some (.bool (alkB a b), H) := by
 refine gev_GWP (f := 21) rfl rfl rfl (fun Post hPost => ?_) H
 unfold alkB at hPost
 simp only [frameOf, Nat.reduceAdd]
 repeat' (first | refine zn ?_ | refine zK rfl ?_ | refine zP rfl ?_ | ((first | refine zm ?_ | skip); intro _; intros; simp (disch := first | exact zd | fail) only [↓yS, yT, gresults, gone, ↓reduceIte, Nat.reduceEqDiff, Nat.reduceAdd, Nat.reduceMul, reduceCtorEq, Int.reduceToNat, g21]; first | (rename_i K k; (first | refine yC (k _ _ ?_) | refine zg (k _ ?_)); clear k K) | (rename_i A B C D a b c d; (first | refine zx (a ?_) | refine zy (b ?_) | refine zz (fun hc => c ?_) (fun hc => d ?_) | refine zv (b ?_) | refine zw (a ?_)) <;> clear a b c d A B C D <;> try simp only [yL] at hc)) | refine zA ?_ | refine zB ?_ | refine zF ?_)
 refine Gw_s fun K' hK' => G1_call (by simp only [gtarget, ↓GArg.ev, ↓evs, ↓Tr.get_set, Nat.reduceEqDiff, if_true, if_false, ↓reduceIte, Option.map_some]; rfl) (one_of (rvalid_ok (s := strB a) (by rw [strB_size]; omega) _)) fun r1 H1 hq => hK' _ _ ?_
 obtain ⟨rfl, rfl⟩ := hq
 cases hva : vldB (strB a) with
 | false =>
  rw [hva, Bool.false_and, Bool.false_and] at hPost
  repeat' (first | (exfalso; omega) | refine zn ?_ | refine zK rfl ?_ | refine zP rfl ?_ | ((first | refine zm ?_ | skip); intro _; intros; simp (disch := first | exact zd | fail) only [↓yS, yT, gresults, gone, ↓reduceIte, Nat.reduceEqDiff, Nat.reduceAdd, Nat.reduceMul, reduceCtorEq, Int.reduceToNat, g21]; first | (rename_i K k; (first | refine yC (k _ _ ?_) | refine zg (k _ ?_)); clear k K) | (rename_i A B C D a b c d; (first | refine zx (a ?_) | refine zy (b ?_) | refine zz (fun hc => c ?_) (fun hc => d ?_) | refine zv (b ?_) | refine zw (a ?_)) <;> clear a b c d A B C D <;> try simp only [yL] at hc)) | refine zA ?_ | refine zB ?_ | refine zF ?_)
  exact hPost _
 | true =>
 rw [hva, Bool.true_and] at hPost
 repeat' (first | (exfalso; omega) | refine zn ?_ | refine zK rfl ?_ | refine zP rfl ?_ | ((first | refine zm ?_ | skip); intro _; intros; simp (disch := first | exact zd | fail) only [↓yS, yT, gresults, gone, ↓reduceIte, Nat.reduceEqDiff, Nat.reduceAdd, Nat.reduceMul, reduceCtorEq, Int.reduceToNat, g21]; first | (rename_i K k; (first | refine yC (k _ _ ?_) | refine zg (k _ ?_)); clear k K) | (rename_i A B C D a b c d; (first | refine zx (a ?_) | refine zy (b ?_) | refine zz (fun hc => c ?_) (fun hc => d ?_) | refine zv (b ?_) | refine zw (a ?_)) <;> clear a b c d A B C D <;> try simp only [yL] at hc)) | refine zA ?_ | refine zB ?_ | refine zF ?_)
 intro K' hK'; refine G1_call (by simp only [gtarget, ↓GArg.ev, ↓evs, ↓Tr.get_set, Nat.reduceEqDiff, if_true, if_false, ↓reduceIte, Option.map_some]; rfl) (one_of (rvalid_ok (s := strB b) (by rw [strB_size]; omega) _)) fun r1 H1 hq => hK' _ _ ?_
 obtain ⟨rfl, rfl⟩ := hq
 cases hvb : vldB (strB b) with
 | false =>
  rw [hvb, Bool.false_and] at hPost
  repeat' (first | (exfalso; omega) | refine zn ?_ | refine zK rfl ?_ | refine zP rfl ?_ | ((first | refine zm ?_ | skip); intro _; intros; simp (disch := first | exact zd | fail) only [↓yS, yT, gresults, gone, ↓reduceIte, Nat.reduceEqDiff, Nat.reduceAdd, Nat.reduceMul, reduceCtorEq, Int.reduceToNat, g21]; first | (rename_i K k; (first | refine yC (k _ _ ?_) | refine zg (k _ ?_)); clear k K) | (rename_i A B C D a b c d; (first | refine zx (a ?_) | refine zy (b ?_) | refine zz (fun hc => c ?_) (fun hc => d ?_) | refine zv (b ?_) | refine zw (a ?_)) <;> clear a b c d A B C D <;> try simp only [yL] at hc)) | refine zA ?_ | refine zB ?_ | refine zF ?_)
  exact hPost _
 | true =>
 rw [hvb, Bool.true_and] at hPost
 repeat' (first | (exfalso; omega) | refine zn ?_ | refine zK rfl ?_ | refine zP rfl ?_ | ((first | refine zm ?_ | skip); intro _; intros; simp (disch := first | exact zd | fail) only [↓yS, yT, gresults, gone, ↓reduceIte, Nat.reduceEqDiff, Nat.reduceAdd, Nat.reduceMul, reduceCtorEq, Int.reduceToNat, g21]; first | (rename_i K k; (first | refine yC (k _ _ ?_) | refine zg (k _ ?_)); clear k K) | (rename_i A B C D a b c d; (first | refine zx (a ?_) | refine zy (b ?_) | refine zz (fun hc => c ?_) (fun hc => d ?_) | refine zv (b ?_) | refine zw (a ?_)) <;> clear a b c d A B C D <;> try simp only [yL] at hc)) | refine zA ?_ | refine zB ?_ | refine zF ?_)
 intro K' hK'; refine G1_call (by simp only [gtarget, ↓GArg.ev, ↓evs, ↓Tr.get_set, Nat.reduceEqDiff, if_true, if_false, ↓reduceIte, Option.map_some]; rfl) (one_of (rfold_ok (s := strB a) (by rw [strB_size]; omega) _)) fun r1 H1 hq => hK' _ _ ?_
 obtain ⟨rfl, rfl⟩ := hq
 repeat' (first | (exfalso; omega) | refine zn ?_ | refine zK rfl ?_ | refine zP rfl ?_ | ((first | refine zm ?_ | skip); intro _; intros; simp (disch := first | exact zd | fail) only [↓yS, yT, gresults, gone, ↓reduceIte, Nat.reduceEqDiff, Nat.reduceAdd, Nat.reduceMul, reduceCtorEq, Int.reduceToNat, g21]; first | (rename_i K k; (first | refine yC (k _ _ ?_) | refine zg (k _ ?_)); clear k K) | (rename_i A B C D a b c d; (first | refine zx (a ?_) | refine zy (b ?_) | refine zz (fun hc => c ?_) (fun hc => d ?_) | refine zv (b ?_) | refine zw (a ?_)) <;> clear a b c d A B C D <;> try simp only [yL] at hc)) | refine zA ?_ | refine zB ?_ | refine zF ?_)
 intro K' hK'; refine G1_call (by simp only [gtarget, ↓GArg.ev, ↓evs, ↓Tr.get_set, Nat.reduceEqDiff, if_true, if_false, ↓reduceIte, Option.map_some]; rfl) (one_of (rfold_ok (s := strB b) (by rw [strB_size]; omega) _)) fun r1 H1 hq => hK' _ _ ?_
 obtain ⟨rfl, rfl⟩ := hq
 repeat' (first | (exfalso; omega) | refine zn ?_ | refine zK rfl ?_ | refine zP rfl ?_ | ((first | refine zm ?_ | skip); intro _; intros; simp (disch := first | exact zd | fail) only [↓yS, yT, gresults, gone, ↓reduceIte, Nat.reduceEqDiff, Nat.reduceAdd, Nat.reduceMul, reduceCtorEq, Int.reduceToNat, g21, gb_eqlB]; first | (rename_i K k; (first | refine yC (k _ _ ?_) | refine zg (k _ ?_)); clear k K) | (rename_i A B C D a b c d; (first | refine zx (a ?_) | refine zy (b ?_) | refine zz (fun hc => c ?_) (fun hc => d ?_) | refine zv (b ?_) | refine zw (a ?_)) <;> clear a b c d A B C D <;> try simp only [yL] at hc)) | refine zA ?_ | refine zB ?_ | refine zF ?_)
 exact hPost _
theorem GArg1.preI {H : GHeap} (hw : H.wf) {size n : Nat} {v : Value} {xs : List Value} (h : GArg1 H size v n xs) {b : Nat} (hb : b ≤ n) :
  ∃ v', (∀ H', Same H H' → gslice (.sl size) H' v none (some (.int .i64 (b : Int))) none = some v') ∧ GArg1 H size v' b (xs.take (b * size)) := by
 obtain ⟨v', e, h1, _⟩ := h.cut (k := .i64) (a := 0) (b := b) (by omega) (by omega) (by omega)
 refine ⟨v', fun H' hS => ?_, ?_⟩
 ·rw [h.gslice_same hw hS, gslice_lo0 (k := .i64) (fun x hx => by cases hx; exact ⟨_, _, rfl⟩)]; exact e
 ·simpa using h1
theorem rows_take {α : Type} {f : α → List Value} {s : Nat} (hf : ∀ x, (f x).length = s) : ∀ (l : List α) (n : Nat), (l.flatMap f).take (n * s) = (l.take n).flatMap f
 | [], n => by simp
 | x :: l, 0 => by simp
 | x :: l, n + 1 => by
  rw [List.flatMap_cons, List.take_succ_cons, List.flatMap_cons, List.take_append, hf]
  have h1 : (n + 1) * s - s = n * s := by rw [Nat.add_mul, Nat.one_mul]; omega
  rw [h1, rows_take hf l n, List.take_of_length_le (by rw [hf, Nat.add_mul, Nat.one_mul]; omega)]
theorem TR.pre {H : GHeap} (hw : H.wf) {v : Value} {l : List Tm} (h : TR H v l) {b : Nat} (hb : b ≤ l.length) : ∃ v', (∀ H', Same H H' → gslice (.sl 2) H' v none (some (.int .i64 (b : Int))) none = some v') ∧ TR H v' (l.take b) := by
 obtain ⟨v', e, h1⟩ := h.ar.preI hw hb
 refine ⟨v', e, ?_, fun x hx => h.tg x (List.mem_of_mem_take hx), by have := h.le; rw [List.length_take]; omega, fun x hx => h.sz x (List.mem_of_mem_take hx)⟩
 have h2 : (TmC l).take (b * 2) = TmC (l.take b) := rows_take tmC_len l b
 rw [h2] at h1
 rw [List.length_take, Nat.min_eq_left hb]
 exact h1
theorem SRd.pre {H : GHeap} (hw : H.wf) {v : Value} {l : List (List UInt8)} (h : SRd H v l) {b : Nat} (hb : b ≤ l.length) : ∃ v', (∀ H', Same H H' → gslice (.sl 1) H' v none (some (.int .i64 (b : Int))) none = some v') ∧ SRd H v' (l.take b) := by
 obtain ⟨v', e, h1⟩ := GArg1.preI hw h hb
 refine ⟨v', e, ?_⟩
 have h2 : (strs l).take (b * 1) = strs (l.take b) := by rw [Nat.mul_one]; simp [strs, List.map_take]
 rw [h2] at h1
 show GArg1 H 1 v' (l.take b).length (strs (l.take b))
 rw [List.length_take, Nat.min_eq_left hb]
 exact h1
theorem indexP_ok {H : GHeap} {v : Value} {A : List (List UInt8)} {fid : Nat} {b : Value} {p : List UInt8 → Bool} (hv : SRd H v A) (hl : A.length ≤ 16777216)
  (hp : ∀ s ∈ A, ∃ r H', gev G fid [.string (strB s), b] H = some (r, H') ∧ (r = .bool (p s) ∧ H' = H)) :
  ∃ r H', gev G 45 [v, .func (.func fid) #[] #[b]] H = some (r, H') ∧ (∃ z : Int, r = .int .i64 z ∧ (decide (0 ≤ z) = A.any p) ∧ -1 ≤ z ∧ H' = H) := by
 refine gev_GW (f := 45) rfl fun Post hPost => ?_
 have hsl := hv.rd.isSl
 simp only [frameOf, Nat.reduceAdd]
 repeat' (first | refine zn ?_ | refine zK rfl ?_ | refine zP rfl ?_ | ((first | refine zm ?_ | skip); intro _; intros; simp (disch := first | exact zd | fail) only [↓yS, yT, gresults, gone, ↓reduceIte, Nat.reduceEqDiff, Nat.reduceAdd, Nat.reduceMul, reduceCtorEq, Int.reduceToNat, g45, hsl.len]; first | (rename_i K k; (first | refine yC (k _ _ ?_) | refine zg (k _ ?_)); clear k K) | (rename_i A B C D a b c d; (first | refine zx (a ?_) | refine zy (b ?_) | refine zz (fun hc => c ?_) (fun hc => d ?_) | refine zv (b ?_) | refine zw (a ?_)) <;> clear a b c d A B C D <;> try simp only [yL] at hc)) | refine zA ?_ | refine zB ?_ | refine zF ?_)
 refine GW_loop (fun k fr H1 => ∃ (j : Nat), k = A.length - j ∧ j ≤ A.length ∧ fr.get 0 = some (v) ∧ fr.get 1 = some (.func (.func fid) #[] #[b]) ∧ fr.get 7 = some (.int .i64 A.length) ∧ fr.get 8 = some (.int .i64 j) ∧ H1 = H ∧ A.any p = (A.drop j).any p) ?_ A.length ?_
 rotate_left
 ·refine ⟨0, by omega, by omega, ?_⟩
  simp only [↓yG, Nat.reduceEqDiff, ↓reduceIte, Int.natCast_add, Int.cast_ofNat_Int, Int.natCast_zero, true_and, and_true, Option.some.injEq, Value.int.injEq]
  first | exact ⟨rfl, rfl⟩ | rfl | (simp; done)
 rintro k fr H1 ⟨j, rfl, hj, f0, f1, f7, f8, rfl, han⟩ J hJ
 by_cases hj1 : j < A.length
 ·have e1 := hv.at_ hj1
  have hm := hp _ (bang_mem hj1)
  have hd : A.drop j = A[j]! :: A.drop (j + 1) := by rw [List.drop_eq_getElem_cons hj1, getElem!_pos A j hj1]
  have han2 : A.any p = (p A[j]! || (A.drop (j + 1)).any p) := by rw [han, hd]; rfl
  generalize A[j]! = s at *
  repeat' (first | (exfalso; omega) | refine zn ?_ | refine zK rfl ?_ | refine zP rfl ?_ | ((first | refine zm ?_ | skip); intro _; intros; simp (disch := first | exact zd | fail) only [↓yS, yT, gresults, gone, ↓reduceIte, Nat.reduceEqDiff, Nat.reduceAdd, Nat.reduceMul, reduceCtorEq, Int.reduceToNat, g45, f0, f1, f7, f8, hsl.ia, e1]; first | (rename_i K k; (first | refine yC (k _ _ ?_) | refine zg (k _ ?_)); clear k K) | (rename_i A B C D a b c d; (first | refine zx (a ?_) | refine zy (b ?_) | refine zz (fun hc => c ?_) (fun hc => d ?_) | refine zv (b ?_) | refine zw (a ?_)) <;> clear a b c d A B C D <;> try simp only [yL] at hc)) | refine zA ?_ | refine zB ?_ | refine zF ?_)
  refine Gw_s fun K' hK' => G1_call (by simp only [gtarget, ↓GArg.ev, ↓evs, ↓Tr.get_set, Nat.reduceEqDiff, if_true, if_false, ↓reduceIte, Option.map_some, f0, f1, f7, f8]; rfl) hm fun r9 H9 hq => hK' _ _ ?_
  obtain ⟨rfl, rfl⟩ := hq
  cases hc : p s with
  | true =>
   rw [hc, Bool.true_or] at han2
   repeat' (first | (exfalso; omega) | refine zn ?_ | refine zK rfl ?_ | refine zP rfl ?_ | ((first | refine zm ?_ | skip); intro _; intros; simp (disch := first | exact zd | fail) only [↓yS, yT, gresults, gone, ↓reduceIte, Nat.reduceEqDiff, Nat.reduceAdd, Nat.reduceMul, reduceCtorEq, Int.reduceToNat, g45, f0, f1, f7, f8]; first | (rename_i K k; (first | refine yC (k _ _ ?_) | refine zg (k _ ?_)); clear k K) | (rename_i A B C D a b c d; (first | refine zx (a ?_) | refine zy (b ?_) | refine zz (fun hc => c ?_) (fun hc => d ?_) | refine zv (b ?_) | refine zw (a ?_)) <;> clear a b c d A B C D <;> try simp only [yL] at hc)) | refine zA ?_ | refine zB ?_ | refine zF ?_)
   exact hPost _ _ ⟨(j : Int), rfl, by rw [han2]; simp, by omega, rfl⟩
  | false =>
   rw [hc, Bool.false_or] at han2
   repeat' (first | (exfalso; omega) | refine zn ?_ | refine zK rfl ?_ | refine zP rfl ?_ | ((first | refine zm ?_ | skip); intro _; intros; simp (disch := first | exact zd | fail) only [↓yS, yT, gresults, gone, ↓reduceIte, Nat.reduceEqDiff, Nat.reduceAdd, Nat.reduceMul, reduceCtorEq, Int.reduceToNat, g45, f0, f1, f7, f8]; first | (rename_i K k; (first | refine yC (k _ _ ?_) | refine zg (k _ ?_)); clear k K) | (rename_i A B C D a b c d; (first | refine zx (a ?_) | refine zy (b ?_) | refine zz (fun hc => c ?_) (fun hc => d ?_) | refine zv (b ?_) | refine zw (a ?_)) <;> clear a b c d A B C D <;> try simp only [yL] at hc)) | refine zA ?_ | refine zB ?_ | refine zF ?_)
   refine hJ _ _ ⟨A.length - (j + 1), by omega, j + 1, rfl, by omega, ?_⟩
   simp only [↓yG, Nat.reduceEqDiff, ↓reduceIte, Int.natCast_add, Int.cast_ofNat_Int, Int.natCast_zero, true_and, and_true, Option.some.injEq, Value.int.injEq, f0, f1, f7]
   first | exact ⟨rfl, han2⟩ | exact han2
 ·obtain rfl : j = A.length := by omega
  rw [List.drop_length] at han
  repeat' (first | (exfalso; omega) | refine zn ?_ | refine zK rfl ?_ | refine zP rfl ?_ | ((first | refine zm ?_ | skip); intro _; intros; simp (disch := first | exact zd | fail) only [↓yS, yT, gresults, gone, ↓reduceIte, Nat.reduceEqDiff, Nat.reduceAdd, Nat.reduceMul, reduceCtorEq, Int.reduceToNat, g45, f0, f1, f7, f8]; first | (rename_i K k; (first | refine yC (k _ _ ?_) | refine zg (k _ ?_)); clear k K) | (rename_i A B C D a b c d; (first | refine zx (a ?_) | refine zy (b ?_) | refine zz (fun hc => c ?_) (fun hc => d ?_) | refine zv (b ?_) | refine zw (a ?_)) <;> clear a b c d A B C D <;> try simp only [yL] at hc)) | refine zA ?_ | refine zB ?_ | refine zF ?_)
  exact hPost _ _ ⟨-1, rfl, by rw [han]; rfl, by omega, rfl⟩
theorem containsP_ok {H : GHeap} {v : Value} {A : List (List UInt8)} {fid : Nat} {b : Value} {p : List UInt8 → Bool} (hv : SRd H v A) (hl : A.length ≤ 16777216)
  (hp : ∀ s ∈ A, ∃ r H', gev G fid [.string (strB s), b] H = some (r, H') ∧ (r = .bool (p s) ∧ H' = H)) :
  ∃ r H', gev G 22 [v, .func (.func fid) #[] #[b]] H = some (r, H') ∧ (r = .bool (A.any p) ∧ H' = H) := by
 refine gev_GW (f := 22) rfl fun Post hPost => ?_
 simp only [frameOf, Nat.reduceAdd]
 repeat' (first | refine zn ?_ | refine zK rfl ?_ | refine zP rfl ?_ | ((first | refine zm ?_ | skip); intro _; intros; simp (disch := first | exact zd | fail) only [↓yS, yT, gresults, gone, ↓reduceIte, Nat.reduceEqDiff, Nat.reduceAdd, Nat.reduceMul, reduceCtorEq, Int.reduceToNat, g22]; first | (rename_i K k; (first | refine yC (k _ _ ?_) | refine zg (k _ ?_)); clear k K) | (rename_i A B C D a b c d; (first | refine zx (a ?_) | refine zy (b ?_) | refine zz (fun hc => c ?_) (fun hc => d ?_) | refine zv (b ?_) | refine zw (a ?_)) <;> clear a b c d A B C D <;> try simp only [yL] at hc)) | refine zA ?_ | refine zB ?_ | refine zF ?_)
 refine Gw_s fun K' hK' => G1_call (by simp only [gtarget, ↓GArg.ev, ↓evs, ↓Tr.get_set, Nat.reduceEqDiff, if_true, if_false, ↓reduceIte, Option.map_some]; rfl) (indexP_ok hv hl hp) fun r1 H1 hq => hK' _ _ ?_
 obtain ⟨z, rfl, hz, hz1, rfl⟩ := hq
 repeat' (first | refine zn ?_ | refine zK rfl ?_ | refine zP rfl ?_ | ((first | refine zm ?_ | skip); intro _; intros; simp (disch := first | exact zd | fail) only [↓yS, yT, gresults, gone, ↓reduceIte, Nat.reduceEqDiff, Nat.reduceAdd, Nat.reduceMul, reduceCtorEq, Int.reduceToNat, g22]; first | (rename_i K k; (first | refine yC (k _ _ ?_) | refine zg (k _ ?_)); clear k K) | (rename_i A B C D a b c d; (first | refine zx (a ?_) | refine zy (b ?_) | refine zz (fun hc => c ?_) (fun hc => d ?_) | refine zv (b ?_) | refine zw (a ?_)) <;> clear a b c d A B C D <;> try simp only [yL] at hc)) | refine zA ?_ | refine zB ?_ | refine zF ?_)
 rw [hz]
 exact hPost _ _ ⟨rfl, rfl⟩
theorem closL_ok {H : GHeap} {b : Nat} {x s : List UInt8} (hb : H.rd b 0 = some (.string (strB x))) (hx : x.length ≤ 16777216) (hs : s.length ≤ 16777216) :
  ∃ r H', gev G 44 [.string (strB s), .pointer (some ⟨b, 0, none⟩)] H = some (r, H') ∧ (r = .bool (alkB s x) ∧ H' = H) := by
 refine gev_GW (f := 44) rfl fun Post hPost => ?_
 simp only [frameOf, Nat.reduceAdd]
 repeat' (first | refine zn ?_ | refine zK rfl ?_ | refine zP rfl ?_ | ((first | refine zm ?_ | skip); intro _; intros; simp (disch := first | exact zd | fail) only [↓yS, yT, gresults, gone, ↓reduceIte, Nat.reduceEqDiff, Nat.reduceAdd, Nat.reduceMul, reduceCtorEq, Int.reduceToNat, g44, hb]; first | (rename_i K k; (first | refine yC (k _ _ ?_) | refine zg (k _ ?_)); clear k K) | (rename_i A B C D a b c d; (first | refine zx (a ?_) | refine zy (b ?_) | refine zz (fun hc => c ?_) (fun hc => d ?_) | refine zv (b ?_) | refine zw (a ?_)) <;> clear a b c d A B C D <;> try simp only [yL] at hc)) | refine zA ?_ | refine zB ?_ | refine zF ?_)
 refine Gw_s fun K' hK' => G1_call (by simp only [gtarget, ↓GArg.ev, ↓evs, ↓Tr.get_set, Nat.reduceEqDiff, if_true, if_false, ↓reduceIte, Option.map_some]; rfl) (one_of (alike_ok hs hx _)) fun r1 H1 hq => hK' _ _ ?_
 obtain ⟨rfl, rfl⟩ := hq
 repeat' (first | refine zn ?_ | refine zK rfl ?_ | refine zP rfl ?_ | ((first | refine zm ?_ | skip); intro _; intros; simp (disch := first | exact zd | fail) only [↓yS, yT, gresults, gone, ↓reduceIte, Nat.reduceEqDiff, Nat.reduceAdd, Nat.reduceMul, reduceCtorEq, Int.reduceToNat, g44]; first | (rename_i K k; (first | refine yC (k _ _ ?_) | refine zg (k _ ?_)); clear k K) | (rename_i A B C D a b c d; (first | refine zx (a ?_) | refine zy (b ?_) | refine zz (fun hc => c ?_) (fun hc => d ?_) | refine zv (b ?_) | refine zw (a ?_)) <;> clear a b c d A B C D <;> try simp only [yL] at hc)) | refine zA ?_ | refine zB ?_ | refine zF ?_)
 exact hPost _ _ ⟨rfl, rfl⟩
theorem like_ok {H : GHeap} (hw : H.wf) {v : Value} {A : List (List UInt8)} {x : List UInt8} (hv : SRd H v A) (hl : A.length ≤ 16777216) (hA : ∀ s ∈ A, s.length ≤ 16777216) (hx : x.length ≤ 16777216) :
  ∃ r H', gev G 19 [v, .string (strB x)] H = some (r, H') ∧ (r = .bool (A.any fun s => alkB s x) ∧ Same H H') := by
 refine gev_GW (f := 19) rfl fun Post hPost => ?_
 have hlim := hw.1
 have hS1 := (Same.refl hw).add (.cells [.string (strB x)] 0 true)
 have hr1 : (H.add (some (.cells [.string (strB x)] 0 true))).rd H.len 0 = some (.string (strB x)) := by rw [rd_add_eq rfl]; rfl
 have hbs : (Value.string (strB x)).cells.toList = [.string (strB x)] := rfl
 have hbf : (Value.string (strB x)).cells.all flatV = true := by simp [Value.cells, flatV]
 have hv1 : SRd _ v A := GArg1.same hv hw hS1
 simp only [frameOf, Nat.reduceAdd]
 repeat' (first | refine zn ?_ | refine zK rfl ?_ | refine zP rfl ?_ | ((first | refine zm ?_ | skip); intro _; intros; simp (disch := first | exact zd | fail) only [↓yS, yT, gresults, gone, ↓reduceIte, Nat.reduceEqDiff, Nat.reduceAdd, Nat.reduceMul, reduceCtorEq, Int.reduceToNat, g19, hbs, hbf]; first | (rename_i K k; (first | refine yC (k _ _ ?_) | refine zg (k _ ?_)); clear k K) | (rename_i A B C D a b c d; (first | refine zx (a ?_) | refine zy (b ?_) | refine zz (fun hc => c ?_) (fun hc => d ?_) | refine zv (b ?_) | refine zw (a ?_)) <;> clear a b c d A B C D <;> try simp only [yL] at hc)) | refine zA ?_ | refine zB ?_ | refine zF ?_)
 refine Gw_s fun K' hK' => G1_call (by simp only [gtarget, ↓GArg.ev, ↓evs, ↓Tr.get_set, Nat.reduceEqDiff, if_true, if_false, ↓reduceIte, Option.map_some]; rfl) (containsP_ok hv1 hl (p := fun s => alkB s x) (fun s hs => closL_ok hr1 hx (hA s hs))) fun r1 H1 hq => hK' _ _ ?_
 obtain ⟨rfl, rfl⟩ := hq
 repeat' (first | refine zn ?_ | refine zK rfl ?_ | refine zP rfl ?_ | ((first | refine zm ?_ | skip); intro _; intros; simp (disch := first | exact zd | fail) only [↓yS, yT, gresults, gone, ↓reduceIte, Nat.reduceEqDiff, Nat.reduceAdd, Nat.reduceMul, reduceCtorEq, Int.reduceToNat, g19]; first | (rename_i K k; (first | refine yC (k _ _ ?_) | refine zg (k _ ?_)); clear k K) | (rename_i A B C D a b c d; (first | refine zx (a ?_) | refine zy (b ?_) | refine zz (fun hc => c ?_) (fun hc => d ?_) | refine zv (b ?_) | refine zw (a ?_)) <;> clear a b c d A B C D <;> try simp only [yL] at hc)) | refine zA ?_ | refine zB ?_ | refine zF ?_)
 exact hPost _ _ ⟨rfl, hS1⟩
theorem closT_ok {H : GHeap} (hw : H.wf) {b : Nat} {x y : Tm} (hb : H.rd b 0 = some (.string (strB y.s))) (hbl : b < H.len) (hx : x.s.length ≤ 16777216) (hy : y.s.length ≤ 16777216) (hf : flatV x.v = true) :
  ∃ r H', gev G 17 [tmV x, .pointer (some ⟨b, 0, none⟩)] H = some (r, H') ∧ (r = .bool (alkB x.s y.s) ∧ Same H H') := by
 refine gev_GW (f := 17) rfl fun Post hPost => ?_
 have hlim := hw.1
 have hS1 := (Same.refl hw).add (.cells (tmC x) 0 true)
 have hr1 : (H.add (some (.cells (tmC x) 0 true))).rd H.len 0 = some (.string (strB x.s)) := by rw [rd_add_eq rfl]; rfl
 have hr2 : (H.add (some (.cells (tmC x) 0 true))).rd b 0 = some (.string (strB y.s)) := by rw [rd_add_ne (by omega)]; exact hb
 have hbs : (tmV x).cells.toList = tmC x := rfl
 have hbf : (tmV x).cells.all flatV = true := by
  rw [← Array.all_toList]
  show ([.string (strB x.s), x.v] : List Value).all flatV = true
  simp only [List.all_cons, List.all_nil, hf]; rfl
 simp only [frameOf, Nat.reduceAdd]
 repeat' (first | refine zn ?_ | refine zK rfl ?_ | refine zP rfl ?_ | ((first | refine zm ?_ | skip); intro _; intros; simp (disch := first | exact zd | fail) only [↓yS, yT, gresults, gone, ↓reduceIte, Nat.reduceEqDiff, Nat.reduceAdd, Nat.reduceMul, reduceCtorEq, Int.reduceToNat, g17, hbs, hbf, hr1, hr2]; first | (rename_i K k; (first | refine yC (k _ _ ?_) | refine zg (k _ ?_)); clear k K) | (rename_i A B C D a b c d; (first | refine zx (a ?_) | refine zy (b ?_) | refine zz (fun hc => c ?_) (fun hc => d ?_) | refine zv (b ?_) | refine zw (a ?_)) <;> clear a b c d A B C D <;> try simp only [yL] at hc)) | refine zA ?_ | refine zB ?_ | refine zF ?_)
 refine Gw_s fun K' hK' => G1_call (by simp only [gtarget, ↓GArg.ev, ↓evs, ↓Tr.get_set, Nat.reduceEqDiff, if_true, if_false, ↓reduceIte, Option.map_some]; rfl) (one_of (alike_ok hx hy _)) fun r1 H1 hq => hK' _ _ ?_
 obtain ⟨rfl, rfl⟩ := hq
 repeat' (first | refine zn ?_ | refine zK rfl ?_ | refine zP rfl ?_ | ((first | refine zm ?_ | skip); intro _; intros; simp (disch := first | exact zd | fail) only [↓yS, yT, gresults, gone, ↓reduceIte, Nat.reduceEqDiff, Nat.reduceAdd, Nat.reduceMul, reduceCtorEq, Int.reduceToNat, g17]; first | (rename_i K k; (first | refine yC (k _ _ ?_) | refine zg (k _ ?_)); clear k K) | (rename_i A B C D a b c d; (first | refine zx (a ?_) | refine zy (b ?_) | refine zz (fun hc => c ?_) (fun hc => d ?_) | refine zv (b ?_) | refine zw (a ?_)) <;> clear a b c d A B C D <;> try simp only [yL] at hc)) | refine zA ?_ | refine zB ?_ | refine zF ?_)
 exact hPost _ _ ⟨rfl, hS1⟩
theorem indexT_ok {H : GHeap} (hw : H.wf) {v : Value} {A : List Tm} {b : Nat} {y : Tm} (hv : TR H v A) (hb : H.rd b 0 = some (.string (strB y.s))) (hbl : b < H.len) (hy : y.s.length ≤ 16777216) :
  ∃ r H', gev G 43 [v, .func (.func 17) #[] #[.pointer (some ⟨b, 0, none⟩)]] H = some (r, H') ∧ (∃ z : Int, r = .int .i64 z ∧ (decide (0 ≤ z) = A.any fun x => alkB x.s y.s) ∧ -1 ≤ z ∧ Same H H') := by
 refine gev_GW (f := 43) rfl fun Post hPost => ?_
 have hsl := hv.isSl
 have hle := hv.le
 simp only [frameOf, Nat.reduceAdd]
 repeat' (first | refine zn ?_ | refine zK rfl ?_ | refine zP rfl ?_ | ((first | refine zm ?_ | skip); intro _; intros; simp (disch := first | exact zd | fail) only [↓yS, yT, gresults, gone, ↓reduceIte, Nat.reduceEqDiff, Nat.reduceAdd, Nat.reduceMul, reduceCtorEq, Int.reduceToNat, g43, hsl.len]; first | (rename_i K k; (first | refine yC (k _ _ ?_) | refine zg (k _ ?_)); clear k K) | (rename_i A B C D a b c d; (first | refine zx (a ?_) | refine zy (b ?_) | refine zz (fun hc => c ?_) (fun hc => d ?_) | refine zv (b ?_) | refine zw (a ?_)) <;> clear a b c d A B C D <;> try simp only [yL] at hc)) | refine zA ?_ | refine zB ?_ | refine zF ?_)
 refine GW_loop (fun k fr H1 => ∃ (j : Nat), k = A.length - j ∧ j ≤ A.length ∧ fr.get 0 = some (v) ∧ fr.get 1 = some (.func (.func 17) #[] #[.pointer (some ⟨b, 0, none⟩)]) ∧ fr.get 7 = some (.int .i64 A.length) ∧ fr.get 8 = some (.int .i64 j) ∧ Same H H1 ∧ (A.any fun x => alkB x.s y.s) = (A.drop j).any fun x => alkB x.s y.s) ?_ A.length ?_
 rotate_left
 ·refine ⟨0, by omega, by omega, ?_⟩
  simp only [↓yG, Nat.reduceEqDiff, ↓reduceIte, Int.natCast_add, Int.cast_ofNat_Int, Int.natCast_zero, true_and, and_true, Option.some.injEq, Value.int.injEq]
  first | exact ⟨Same.refl hw, rfl⟩
 rintro k fr H1 ⟨j, rfl, hj, f0, f1, f7, f8, hS, han⟩ J hJ
 by_cases hj1 : j < A.length
 ·have hv1 := hv.later hw hS
  have e1 := hv1.rowN hj1
  have hm := bang_mem hj1
  have hsz := (hv.sz _ hm).1
  have hfl := (hv1.tg _ hm).flat
  have hd : A.drop j = A[j]! :: A.drop (j + 1) := by rw [List.drop_eq_getElem_cons hj1, getElem!_pos A j hj1]
  have han2 : (A.any fun x => alkB x.s y.s) = (alkB A[j]!.s y.s || (A.drop (j + 1)).any fun x => alkB x.s y.s) := by rw [han, hd]; rfl
  generalize A[j]! = s at *
  repeat' (first | (exfalso; omega) | refine zn ?_ | refine zK rfl ?_ | refine zP rfl ?_ | ((first | refine zm ?_ | skip); intro _; intros; simp (disch := first | exact zd | fail) only [↓yS, yT, gresults, gone, ↓reduceIte, Nat.reduceEqDiff, Nat.reduceAdd, Nat.reduceMul, reduceCtorEq, Int.reduceToNat, g43, f0, f1, f7, f8, hsl.ia, e1]; first | (rename_i K k; (first | refine yC (k _ _ ?_) | refine zg (k _ ?_)); clear k K) | (rename_i A B C D a b c d; (first | refine zx (a ?_) | refine zy (b ?_) | refine zz (fun hc => c ?_) (fun hc => d ?_) | refine zv (b ?_) | refine zw (a ?_)) <;> clear a b c d A B C D <;> try simp only [yL] at hc)) | refine zA ?_ | refine zB ?_ | refine zF ?_)
  refine Gw_s fun K' hK' => G1_call (by simp only [gtarget, ↓GArg.ev, ↓evs, ↓Tr.get_set, Nat.reduceEqDiff, if_true, if_false, ↓reduceIte, Option.map_some, f0, f1, f7, f8]; rfl) (closT_ok hS.wf (x := s) (y := y) (by rw [hS.rd hbl]; exact hb) (Nat.lt_of_lt_of_le hbl hS.len) hsz hy hfl) fun r9 H9 hq => hK' _ _ ?_
  obtain ⟨rfl, hS9⟩ := hq
  cases hc : alkB s.s y.s with
  | true =>
   rw [hc, Bool.true_or] at han2
   repeat' (first | (exfalso; omega) | refine zn ?_ | refine zK rfl ?_ | refine zP rfl ?_ | ((first | refine zm ?_ | skip); intro _; intros; simp (disch := first | exact zd | fail) only [↓yS, yT, gresults, gone, ↓reduceIte, Nat.reduceEqDiff, Nat.reduceAdd, Nat.reduceMul, reduceCtorEq, Int.reduceToNat, g43, f0, f1, f7, f8]; first | (rename_i K k; (first | refine yC (k _ _ ?_) | refine zg (k _ ?_)); clear k K) | (rename_i A B C D a b c d; (first | refine zx (a ?_) | refine zy (b ?_) | refine zz (fun hc => c ?_) (fun hc => d ?_) | refine zv (b ?_) | refine zw (a ?_)) <;> clear a b c d A B C D <;> try simp only [yL] at hc)) | refine zA ?_ | refine zB ?_ | refine zF ?_)
   exact hPost _ _ ⟨(j : Int), rfl, by rw [han2]; simp, by omega, hS.trans hS9⟩
  | false =>
   rw [hc, Bool.false_or] at han2
   repeat' (first | (exfalso; omega) | refine zn ?_ | refine zK rfl ?_ | refine zP rfl ?_ | ((first | refine zm ?_ | skip); intro _; intros; simp (disch := first | exact zd | fail) only [↓yS, yT, gresults, gone, ↓reduceIte, Nat.reduceEqDiff, Nat.reduceAdd, Nat.reduceMul, reduceCtorEq, Int.reduceToNat, g43, f0, f1, f7, f8]; first | (rename_i K k; (first | refine yC (k _ _ ?_) | refine zg (k _ ?_)); clear k K) | (rename_i A B C D a b c d; (first | refine zx (a ?_) | refine zy (b ?_) | refine zz (fun hc => c ?_) (fun hc => d ?_) | refine zv (b ?_) | refine zw (a ?_)) <;> clear a b c d A B C D <;> try simp only [yL] at hc)) | refine zA ?_ | refine zB ?_ | refine zF ?_)
   refine hJ _ _ ⟨A.length - (j + 1), by omega, j + 1, rfl, by omega, ?_⟩
   simp only [↓yG, Nat.reduceEqDiff, ↓reduceIte, Int.natCast_add, Int.cast_ofNat_Int, Int.natCast_zero, true_and, and_true, Option.some.injEq, Value.int.injEq, f0, f1, f7]
   exact ⟨hS.trans hS9, han2⟩
 ·obtain rfl : j = A.length := by omega
  rw [List.drop_length] at han
  repeat' (first | (exfalso; omega) | refine zn ?_ | refine zK rfl ?_ | refine zP rfl ?_ | ((first | refine zm ?_ | skip); intro _; intros; simp (disch := first | exact zd | fail) only [↓yS, yT, gresults, gone, ↓reduceIte, Nat.reduceEqDiff, Nat.reduceAdd, Nat.reduceMul, reduceCtorEq, Int.reduceToNat, g43, f0, f1, f7, f8]; first | (rename_i K k; (first | refine yC (k _ _ ?_) | refine zg (k _ ?_)); clear k K) | (rename_i A B C D a b c d; (first | refine zx (a ?_) | refine zy (b ?_) | refine zz (fun hc => c ?_) (fun hc => d ?_) | refine zv (b ?_) | refine zw (a ?_)) <;> clear a b c d A B C D <;> try simp only [yL] at hc)) | refine zA ?_ | refine zB ?_ | refine zF ?_)
  exact hPost _ _ ⟨-1, rfl, by rw [han]; rfl, by omega, hS⟩
theorem containsT_ok {H : GHeap} (hw : H.wf) {v : Value} {A : List Tm} {b : Nat} {y : Tm} (hv : TR H v A) (hb : H.rd b 0 = some (.string (strB y.s))) (hbl : b < H.len) (hy : y.s.length ≤ 16777216) :
  ∃ r H', gev G 16 [v, .func (.func 17) #[] #[.pointer (some ⟨b, 0, none⟩)]] H = some (r, H') ∧ (r = .bool (A.any fun x => alkB x.s y.s) ∧ Same H H') := by
 refine gev_GW (f := 16) rfl fun Post hPost => ?_
 simp only [frameOf, Nat.reduceAdd]
 repeat' (first | refine zn ?_ | refine zK rfl ?_ | refine zP rfl ?_ | ((first | refine zm ?_ | skip); intro _; intros; simp (disch := first | exact zd | fail) only [↓yS, yT, gresults, gone, ↓reduceIte, Nat.reduceEqDiff, Nat.reduceAdd, Nat.reduceMul, reduceCtorEq, Int.reduceToNat, g16]; first | (rename_i K k; (first | refine yC (k _ _ ?_) | refine zg (k _ ?_)); clear k K) | (rename_i A B C D a b c d; (first | refine zx (a ?_) | refine zy (b ?_) | refine zz (fun hc => c ?_) (fun hc => d ?_) | refine zv (b ?_) | refine zw (a ?_)) <;> clear a b c d A B C D <;> try simp only [yL] at hc)) | refine zA ?_ | refine zB ?_ | refine zF ?_)
 refine Gw_s fun K' hK' => G1_call (by simp only [gtarget, ↓GArg.ev, ↓evs, ↓Tr.get_set, Nat.reduceEqDiff, if_true, if_false, ↓reduceIte, Option.map_some]; rfl) (indexT_ok hw hv hb hbl hy) fun r1 H1 hq => hK' _ _ ?_
 obtain ⟨z, rfl, hz, hz1, hS⟩ := hq
 repeat' (first | refine zn ?_ | refine zK rfl ?_ | refine zP rfl ?_ | ((first | refine zm ?_ | skip); intro _; intros; simp (disch := first | exact zd | fail) only [↓yS, yT, gresults, gone, ↓reduceIte, Nat.reduceEqDiff, Nat.reduceAdd, Nat.reduceMul, reduceCtorEq, Int.reduceToNat, g16]; first | (rename_i K k; (first | refine yC (k _ _ ?_) | refine zg (k _ ?_)); clear k K) | (rename_i A B C D a b c d; (first | refine zx (a ?_) | refine zy (b ?_) | refine zz (fun hc => c ?_) (fun hc => d ?_) | refine zv (b ?_) | refine zw (a ?_)) <;> clear a b c d A B C D <;> try simp only [yL] at hc)) | refine zA ?_ | refine zB ?_ | refine zF ?_)
 rw [hz]
 exact hPost _ _ ⟨rfl, hS⟩
theorem chkF_go {l : List Tm} (h : ¬ 64 < l.length) : chkF l = fstN (chkT l) l.length := if_neg h
set_option maxHeartbeats 2000000 in
theorem Check_ok {H : GHeap} (hw : H.wf) {v : Value} {l : List Tm} (hv : TR H v l) : ∃ r H', gev G 5 [v] H = some (r, H') ∧ (r = .int .i64 (chkF l : Nat) ∧ Same H H') := by
 refine gev_GW (f := 5) rfl fun Post hPost => ?_
 have hsl := hv.isSl
 have hle := hv.le
 have hS0 := Same.refl hw
 have hP : ∀ (n : Nat) H', chkF l = n → Same H H' → Post (.int .i64 (n : Int)) H' := fun n H' e h => hPost _ _ ⟨by rw [e], h⟩
 clear hPost
 simp only [frameOf, Nat.reduceAdd]
 by_cases h64 : 64 < l.length
 ·repeat' (first | (exfalso; omega) | refine zn ?_ | refine zK rfl ?_ | refine zP rfl ?_ | ((first | refine zm ?_ | skip); intro _; intros; simp (disch := first | exact zd | fail) only [↓yS, yT, gresults, gone, ↓reduceIte, Nat.reduceEqDiff, Nat.reduceAdd, Nat.reduceMul, reduceCtorEq, Int.reduceToNat, g5, hsl.len]; first | (rename_i K k; (first | refine yC (k _ _ ?_) | refine zg (k _ ?_)); clear k K) | (rename_i A B C D a b c d; (first | refine zx (a ?_) | refine zy (b ?_) | refine zz (fun hc => c ?_) (fun hc => d ?_) | refine zv (b ?_) | refine zw (a ?_)) <;> clear a b c d A B C D <;> try simp only [yL] at hc)) | refine zA ?_ | refine zB ?_ | refine zF ?_)
  exact hP 9 _ (if_pos h64) hS0
 have hgo := chkF_go h64
 repeat' (first | (exfalso; omega) | refine zn ?_ | refine zK rfl ?_ | refine zP rfl ?_ | ((first | refine zm ?_ | skip); intro _; intros; simp (disch := first | exact zd | fail) only [↓yS, yT, gresults, gone, ↓reduceIte, Nat.reduceEqDiff, Nat.reduceAdd, Nat.reduceMul, reduceCtorEq, Int.reduceToNat, g5, hsl.len]; first | (rename_i K k; (first | refine yC (k _ _ ?_) | refine zg (k _ ?_)); clear k K) | (rename_i A B C D a b c d; (first | refine zx (a ?_) | refine zy (b ?_) | refine zz (fun hc => c ?_) (fun hc => d ?_) | refine zv (b ?_) | refine zw (a ?_)) <;> clear a b c d A B C D <;> try simp only [yL] at hc)) | refine zA ?_ | refine zB ?_ | refine zF ?_)
 refine GW_loop (fun k fr H1 => ∃ (i : Nat), k = l.length - i ∧ i ≤ l.length ∧ fr.get 0 = some (v) ∧ fr.get 10 = some (v) ∧ fr.get 11 = some (.int .i64 l.length) ∧ fr.get 12 = some (.int .i64 i) ∧ Same H H1 ∧ ∀ j, j < i → chkT l j = 0) ?_ l.length ?_
 rotate_left
 ·refine ⟨0, by omega, by omega, ?_⟩
  simp only [↓yG, Nat.reduceEqDiff, ↓reduceIte, Int.natCast_add, Int.cast_ofNat_Int, Int.natCast_zero, true_and, and_true, Option.some.injEq, Value.int.injEq]
  exact ⟨hS0, fun j hj => absurd hj (Nat.not_lt_zero _)⟩
 rintro k fr H1 ⟨i, rfl, hi, f0, f10, f11, f12, hS, hno⟩ J hJ
 by_cases hil : i < l.length
 case neg =>
  obtain rfl : i = l.length := by omega
  repeat' (first | (exfalso; omega) | refine zn ?_ | refine zK rfl ?_ | refine zP rfl ?_ | ((first | refine zm ?_ | skip); intro _; intros; simp (disch := first | exact zd | fail) only [↓yS, yT, gresults, gone, ↓reduceIte, Nat.reduceEqDiff, Nat.reduceAdd, Nat.reduceMul, reduceCtorEq, Int.reduceToNat, g5, f0, f10, f11, f12]; first | (rename_i K k; (first | refine yC (k _ _ ?_) | refine zg (k _ ?_)); clear k K) | (rename_i A B C D a b c d; (first | refine zx (a ?_) | refine zy (b ?_) | refine zz (fun hc => c ?_) (fun hc => d ?_) | refine zv (b ?_) | refine zw (a ?_)) <;> clear a b c d A B C D <;> try simp only [yL] at hc)) | refine zA ?_ | refine zB ?_ | refine zF ?_)
  exact hP 0 _ (by rw [hgo]; exact fstN_none hno) hS
 have hbad : chkT l i ≠ 0 → chkF l = chkT l i := fun h => by rw [hgo]; exact fstN_some hil hno h
 have hv1 := hv.later hw hS
 have e1 := hv1.rowN hil
 have hm := bang_mem hil
 obtain ⟨hs1, hs2, hs3⟩ := hv.sz _ hm
 have hsr := hv1.tg _ hm
 have hfl := hsr.flat
 have hw1 := hS.wf
 have hlim1 := hw1.1
 unfold chkT at hbad
 have hnx : chkT l i = 0 → ∀ j, j < i + 1 → chkT l j = 0 := fun h j hj => by
  rcases Nat.lt_or_eq_of_le (Nat.le_of_lt_succ hj) with h3 | rfl
  ·exact hno j h3
  ·exact h
 unfold chkT at hnx
 obtain ⟨pv, hpv, hpr⟩ := hv1.pre hw1 (b := i) (by omega)
 generalize l[i]! = x at *
 have hst := gsetn_tm (cs := [.string ⟨#[]⟩, .slice none 0 0]) (x := x) rfl hfl
 have tm0 : (tmC x)[0]? = some (.string (strB x.s)) := rfl
 have tm1 : (tmC x)[1]? = some x.v := rfl
 repeat' (first | (exfalso; omega) | refine zn ?_ | refine zK rfl ?_ | refine zP rfl ?_ | ((first | refine zm ?_ | skip); intro _; intros; simp (disch := first | exact zd | fail) only [↓yS, yT, gresults, gone, ↓reduceIte, Nat.reduceEqDiff, Nat.reduceAdd, Nat.reduceMul, reduceCtorEq, Int.reduceToNat, g5, f0, f10, f11, f12, hsl.ia, e1, hst, tm0, tm1]; first | (rename_i K k; (first | refine yC (k _ _ ?_) | refine zg (k _ ?_)); clear k K) | (rename_i A B C D a b c d; (first | refine zx (a ?_) | refine zy (b ?_) | refine zz (fun hc => c ?_) (fun hc => d ?_) | refine zv (b ?_) | refine zw (a ?_)) <;> clear a b c d A B C D <;> try simp only [yL] at hc)) | refine zA ?_ | refine zB ?_ | refine zF ?_)
 have hS2 : Same H ((H1.add (some (.cells [.string ⟨#[]⟩, .slice none 0 0] 0 true))).put H1.len (.cells (tmC x) 0 true)) := hS.new _ _
 have hS12 : Same H1 ((H1.add (some (.cells [.string ⟨#[]⟩, .slice none 0 0] 0 true))).put H1.len (.cells (tmC x) 0 true)) := (Same.refl hw1).new _ _
 have hrd : ∀ o, ((H1.add (some (.cells [.string ⟨#[]⟩, .slice none 0 0] 0 true))).put H1.len (.cells (tmC x) 0 true)).rd H1.len o = (tmC x)[o]? := fun o => rd_put_same
 have hl2 : ((H1.add (some (.cells [.string ⟨#[]⟩, .slice none 0 0] 0 true))).put H1.len (.cells (tmC x) 0 true)).len = H1.len + 1 := by simp only [len_put, len_add]
 generalize (H1.add (some (.cells [.string ⟨#[]⟩, .slice none 0 0] 0 true))).put H1.len (.cells (tmC x) 0 true) = H2 at *
 have hw2 := hS2.wf
 refine Gw_s fun K' hK' => G1_call (by simp only [gtarget, ↓GArg.ev, ↓evs, ↓Tr.get_set, Nat.reduceEqDiff, if_true, if_false, ↓reduceIte, Option.map_some, f0, f10, f11, f12]; rfl) (one_of (phrase_ok hs1 _)) fun r3 H3 hq => hK' _ _ ?_
 obtain ⟨rfl, rfl⟩ := hq
 cases hph : phrB x.s with
 | false =>
  rw [hph, if_pos rfl] at hbad
  repeat' (first | (exfalso; omega) | refine zn ?_ | refine zK rfl ?_ | refine zP rfl ?_ | ((first | refine zm ?_ | skip); intro _; intros; simp (disch := first | exact zd | fail) only [↓yS, yT, gresults, gone, ↓reduceIte, Nat.reduceEqDiff, Nat.reduceAdd, Nat.reduceMul, reduceCtorEq, Int.reduceToNat, g5, f0, f10, f11, f12]; first | (rename_i K k; (first | refine yC (k _ _ ?_) | refine zg (k _ ?_)); clear k K) | (rename_i A B C D a b c d; (first | refine zx (a ?_) | refine zy (b ?_) | refine zz (fun hc => c ?_) (fun hc => d ?_) | refine zv (b ?_) | refine zw (a ?_)) <;> clear a b c d A B C D <;> try simp only [yL] at hc)) | refine zA ?_ | refine zB ?_ | refine zF ?_)
  exact hP 4 _ (hbad (by decide)) hS2
 | true =>
 rw [hph, if_neg (by decide)] at hbad hnx
 have hp2 := hpv _ hS12
 have hr0 : H3.rd H1.len 0 = some (.string (strB x.s)) := by rw [hrd 0]; exact tm0
 repeat' (first | (exfalso; omega) | refine zn ?_ | refine zK rfl ?_ | refine zP rfl ?_ | ((first | refine zm ?_ | skip); intro _; intros; simp (disch := first | exact zd | fail) only [↓yS, yT, gresults, gone, ↓reduceIte, Nat.reduceEqDiff, Nat.reduceAdd, Nat.reduceMul, reduceCtorEq, Int.reduceToNat, g5, f0, f10, f11, f12, hp2]; first | (rename_i K k; (first | refine yC (k _ _ ?_) | refine zg (k _ ?_)); clear k K) | (rename_i A B C D a b c d; (first | refine zx (a ?_) | refine zy (b ?_) | refine zz (fun hc => c ?_) (fun hc => d ?_) | refine zv (b ?_) | refine zw (a ?_)) <;> clear a b c d A B C D <;> try simp only [yL] at hc)) | refine zA ?_ | refine zB ?_ | refine zF ?_)
 refine Gw_s fun K' hK' => G1_call (by simp only [gtarget, ↓GArg.ev, ↓evs, ↓Tr.get_set, Nat.reduceEqDiff, if_true, if_false, ↓reduceIte, Option.map_some, f0, f10, f11, f12]; rfl) (containsT_ok hw2 (hpr.later hw1 hS12) (y := x) hr0 (by omega) hs1) fun r4 H4 hq => hK' _ _ ?_
 obtain ⟨rfl, hS4⟩ := hq
 have hS5 := hS2.trans hS4
 cases han : (l.take i).any fun y => alkB y.s x.s with
 | true =>
  rw [han, if_pos rfl] at hbad
  repeat' (first | (exfalso; omega) | refine zn ?_ | refine zK rfl ?_ | refine zP rfl ?_ | ((first | refine zm ?_ | skip); intro _; intros; simp (disch := first | exact zd | fail) only [↓yS, yT, gresults, gone, ↓reduceIte, Nat.reduceEqDiff, Nat.reduceAdd, Nat.reduceMul, reduceCtorEq, Int.reduceToNat, g5, f0, f10, f11, f12]; first | (rename_i K k; (first | refine yC (k _ _ ?_) | refine zg (k _ ?_)); clear k K) | (rename_i A B C D a b c d; (first | refine zx (a ?_) | refine zy (b ?_) | refine zz (fun hc => c ?_) (fun hc => d ?_) | refine zv (b ?_) | refine zw (a ?_)) <;> clear a b c d A B C D <;> try simp only [yL] at hc)) | refine zA ?_ | refine zB ?_ | refine zF ?_)
  exact hP 7 _ (hbad (by decide)) hS5
 | false =>
 rw [han, if_neg (by decide)] at hbad hnx
 have hr4 : ∀ H', Same H3 H' → ∀ o, H'.rd H1.len o = (tmC x)[o]? := fun H' h o => by rw [h.rd (by omega)]; exact hrd o
 have hr41 := hr4 _ hS4 1
 rw [tm1] at hr41
 have hslx := hsr.rd.isSl
 by_cases hln : x.g.length < 1 ∨ 8 < x.g.length
 ·rw [if_pos hln] at hbad
  repeat' (first | (exfalso; omega) | refine zn ?_ | refine zK rfl ?_ | refine zP rfl ?_ | ((first | refine zm ?_ | skip); intro _; intros; simp (disch := first | exact zd | fail) only [↓yS, yT, gresults, gone, ↓reduceIte, Nat.reduceEqDiff, Nat.reduceAdd, Nat.reduceMul, reduceCtorEq, Int.reduceToNat, g5, f0, f10, f11, f12, hr41, hslx.len]; first | (rename_i K k; (first | refine yC (k _ _ ?_) | refine zg (k _ ?_)); clear k K) | (rename_i A B C D a b c d; (first | refine zx (a ?_) | refine zy (b ?_) | refine zz (fun hc => c ?_) (fun hc => d ?_) | refine zv (b ?_) | refine zw (a ?_)) <;> clear a b c d A B C D <;> try simp only [yL] at hc)) | refine zA ?_ | refine zB ?_ | refine zF ?_)
  all_goals exact hP 9 _ (hbad (by decide)) hS5
 rw [if_neg hln] at hbad hnx
 repeat' (first | (exfalso; omega) | refine zn ?_ | refine zK rfl ?_ | refine zP rfl ?_ | ((first | refine zm ?_ | skip); intro _; intros; simp (disch := first | exact zd | fail) only [↓yS, yT, gresults, gone, ↓reduceIte, Nat.reduceEqDiff, Nat.reduceAdd, Nat.reduceMul, reduceCtorEq, Int.reduceToNat, g5, f0, f10, f11, f12, hr41, hslx.len]; first | (rename_i K k; (first | refine yC (k _ _ ?_) | refine zg (k _ ?_)); clear k K) | (rename_i A B C D a b c d; (first | refine zx (a ?_) | refine zy (b ?_) | refine zz (fun hc => c ?_) (fun hc => d ?_) | refine zv (b ?_) | refine zw (a ?_)) <;> clear a b c d A B C D <;> try simp only [yL] at hc)) | refine zA ?_ | refine zB ?_ | refine zF ?_)
 have hnG : (∀ j, j < x.g.length → chkG x.g j = 0) → fstN (chkG x.g) x.g.length = 0 := fstN_none
 refine GW_loop (fun k fr H6 => ∃ (q : Nat), k = x.g.length - q ∧ q ≤ x.g.length ∧ fr.get 0 = some (v) ∧ fr.get 4 = some (.pointer (some ⟨H1.len, 0, none⟩)) ∧ fr.get 10 = some (v) ∧ fr.get 11 = some (.int .i64 l.length) ∧ fr.get 12 = some (.int .i64 i) ∧ fr.get 40 = some (x.v) ∧ fr.get 41 = some (.int .i64 x.g.length) ∧ fr.get 42 = some (.int .i64 q) ∧ Same H4 H6 ∧ ∀ j, j < q → chkG x.g j = 0) ?_ x.g.length ?_
 rotate_left
 ·refine ⟨0, by omega, by omega, ?_⟩
  simp only [↓yG, Nat.reduceEqDiff, ↓reduceIte, Int.natCast_add, Int.cast_ofNat_Int, Int.natCast_zero, true_and, and_true, Option.some.injEq, Value.int.injEq, f0, f10, f11, f12]
  exact ⟨Same.refl hS5.wf, fun j hj => absurd hj (Nat.not_lt_zero _)⟩
 rintro k fr H6 ⟨q, rfl, hq, i0, i4, i10, i11, i12, i40, i41, i42, hS6, hgno⟩ J2 hJ2
 have hS7 := hS5.trans hS6
 have hS46 := hS4.trans hS6
 have hS16 := hS12.trans hS46
 by_cases hql : q < x.g.length
 case neg =>
  obtain rfl : q = x.g.length := by omega
  repeat' (first | (exfalso; omega) | refine zn ?_ | refine zK rfl ?_ | refine zP rfl ?_ | ((first | refine zm ?_ | skip); intro _; intros; simp (disch := first | exact zd | fail) only [↓yS, yT, gresults, gone, ↓reduceIte, Nat.reduceEqDiff, Nat.reduceAdd, Nat.reduceMul, reduceCtorEq, Int.reduceToNat, g5, i0, i4, i10, i11, i12, i40, i41, i42]; first | (rename_i K k; (first | refine yC (k _ _ ?_) | refine zg (k _ ?_)); clear k K) | (rename_i A B C D a b c d; (first | refine zx (a ?_) | refine zy (b ?_) | refine zz (fun hc => c ?_) (fun hc => d ?_) | refine zv (b ?_) | refine zw (a ?_)) <;> clear a b c d A B C D <;> try simp only [yL] at hc)) | refine zA ?_ | refine zB ?_ | refine zF ?_)
  refine hJ _ _ ⟨l.length - (i + 1), by omega, i + 1, rfl, by omega, ?_⟩
  simp only [↓yG, Nat.reduceEqDiff, ↓reduceIte, Int.natCast_add, Int.cast_ofNat_Int, Int.natCast_zero, true_and, and_true, Option.some.injEq, Value.int.injEq, i0, i10, i11]
  exact ⟨hS7, hnx (hnG hgno)⟩
 have hgb : chkG x.g q ≠ 0 → chkF l = chkG x.g q := fun h => by
  have h1 := fstN_some hql hgno h
  rw [← h1]
  exact hbad (by rw [h1]; exact h)
 have hgn : chkG x.g q = 0 → ∀ j, j < q + 1 → chkG x.g j = 0 := fun h j hj => by
  rcases Nat.lt_or_eq_of_le (Nat.le_of_lt_succ hj) with h3 | rfl
  ·exact hgno j h3
  ·exact h
 unfold chkG at hgb hgn
 have hsr6 := GArg1.same hsr hw1 hS16
 have e6 := SRd.at_ hsr6 hql
 have hgl := hs3 _ (bang_mem hql)
 obtain ⟨qv, hqv, hqr⟩ := SRd.pre hS7.wf hsr6 (b := q) (by omega)
 have hr61 := hr4 _ hS46 1
 rw [tm1] at hr61
 have hq6 := hqv _ (Same.refl hS7.wf)
 generalize x.g[q]! = s at *
 repeat' (first | (exfalso; omega) | refine zn ?_ | refine zK rfl ?_ | refine zP rfl ?_ | ((first | refine zm ?_ | skip); intro _; intros; simp (disch := first | exact zd | fail) only [↓yS, yT, gresults, gone, ↓reduceIte, Nat.reduceEqDiff, Nat.reduceAdd, Nat.reduceMul, reduceCtorEq, Int.reduceToNat, g5, i0, i4, i10, i11, i12, i40, i41, i42, hslx.ia, e6]; first | (rename_i K k; (first | refine yC (k _ _ ?_) | refine zg (k _ ?_)); clear k K) | (rename_i A B C D a b c d; (first | refine zx (a ?_) | refine zy (b ?_) | refine zz (fun hc => c ?_) (fun hc => d ?_) | refine zv (b ?_) | refine zw (a ?_)) <;> clear a b c d A B C D <;> try simp only [yL] at hc)) | refine zA ?_ | refine zB ?_ | refine zF ?_)
 refine Gw_s fun K' hK' => G1_call (by simp only [gtarget, ↓GArg.ev, ↓evs, ↓Tr.get_set, Nat.reduceEqDiff, if_true, if_false, ↓reduceIte, Option.map_some, i0, i4, i10, i11, i12, i40, i41, i42]; rfl) (one_of (phrase_ok hgl _)) fun r8 H8 hq8 => hK' _ _ ?_
 obtain ⟨rfl, rfl⟩ := hq8
 cases hph2 : phrB s with
 | false =>
  rw [hph2, if_pos rfl] at hgb
  repeat' (first | (exfalso; omega) | refine zn ?_ | refine zK rfl ?_ | refine zP rfl ?_ | ((first | refine zm ?_ | skip); intro _; intros; simp (disch := first | exact zd | fail) only [↓yS, yT, gresults, gone, ↓reduceIte, Nat.reduceEqDiff, Nat.reduceAdd, Nat.reduceMul, reduceCtorEq, Int.reduceToNat, g5, i0, i4, i10, i11, i12, i40, i41, i42]; first | (rename_i K k; (first | refine yC (k _ _ ?_) | refine zg (k _ ?_)); clear k K) | (rename_i A B C D a b c d; (first | refine zx (a ?_) | refine zy (b ?_) | refine zz (fun hc => c ?_) (fun hc => d ?_) | refine zv (b ?_) | refine zw (a ?_)) <;> clear a b c d A B C D <;> try simp only [yL] at hc)) | refine zA ?_ | refine zB ?_ | refine zF ?_)
  exact hP 4 _ (hgb (by decide)) hS7
 | true =>
 rw [hph2, if_neg (by decide)] at hgb hgn
 repeat' (first | (exfalso; omega) | refine zn ?_ | refine zK rfl ?_ | refine zP rfl ?_ | ((first | refine zm ?_ | skip); intro _; intros; simp (disch := first | exact zd | fail) only [↓yS, yT, gresults, gone, ↓reduceIte, Nat.reduceEqDiff, Nat.reduceAdd, Nat.reduceMul, reduceCtorEq, Int.reduceToNat, g5, i0, i4, i10, i11, i12, i40, i41, i42, hr61, hq6]; first | (rename_i K k; (first | refine yC (k _ _ ?_) | refine zg (k _ ?_)); clear k K) | (rename_i A B C D a b c d; (first | refine zx (a ?_) | refine zy (b ?_) | refine zz (fun hc => c ?_) (fun hc => d ?_) | refine zv (b ?_) | refine zw (a ?_)) <;> clear a b c d A B C D <;> try simp only [yL] at hc)) | refine zA ?_ | refine zB ?_ | refine zF ?_)
 refine Gw_s fun K' hK' => G1_call (by simp only [gtarget, ↓GArg.ev, ↓evs, ↓Tr.get_set, Nat.reduceEqDiff, if_true, if_false, ↓reduceIte, Option.map_some, i0, i4, i10, i11, i12, i40, i41, i42]; rfl) (like_ok hS7.wf hqr (by rw [List.length_take]; omega) (fun t ht => hs3 t (List.mem_of_mem_take ht)) hgl) fun r8 H8 hq8 => hK' _ _ ?_
 obtain ⟨rfl, hS8⟩ := hq8
 cases hlk : (x.g.take q).any fun y => alkB y s with
 | true =>
  rw [hlk, if_pos rfl] at hgb
  repeat' (first | (exfalso; omega) | refine zn ?_ | refine zK rfl ?_ | refine zP rfl ?_ | ((first | refine zm ?_ | skip); intro _; intros; simp (disch := first | exact zd | fail) only [↓yS, yT, gresults, gone, ↓reduceIte, Nat.reduceEqDiff, Nat.reduceAdd, Nat.reduceMul, reduceCtorEq, Int.reduceToNat, g5, i0, i4, i10, i11, i12, i40, i41, i42]; first | (rename_i K k; (first | refine yC (k _ _ ?_) | refine zg (k _ ?_)); clear k K) | (rename_i A B C D a b c d; (first | refine zx (a ?_) | refine zy (b ?_) | refine zz (fun hc => c ?_) (fun hc => d ?_) | refine zv (b ?_) | refine zw (a ?_)) <;> clear a b c d A B C D <;> try simp only [yL] at hc)) | refine zA ?_ | refine zB ?_ | refine zF ?_)
  exact hP 7 _ (hgb (by decide)) (hS7.trans hS8)
 | false =>
 rw [hlk, if_neg (by decide)] at hgb hgn
 repeat' (first | (exfalso; omega) | refine zn ?_ | refine zK rfl ?_ | refine zP rfl ?_ | ((first | refine zm ?_ | skip); intro _; intros; simp (disch := first | exact zd | fail) only [↓yS, yT, gresults, gone, ↓reduceIte, Nat.reduceEqDiff, Nat.reduceAdd, Nat.reduceMul, reduceCtorEq, Int.reduceToNat, g5, i0, i4, i10, i11, i12, i40, i41, i42]; first | (rename_i K k; (first | refine yC (k _ _ ?_) | refine zg (k _ ?_)); clear k K) | (rename_i A B C D a b c d; (first | refine zx (a ?_) | refine zy (b ?_) | refine zz (fun hc => c ?_) (fun hc => d ?_) | refine zv (b ?_) | refine zw (a ?_)) <;> clear a b c d A B C D <;> try simp only [yL] at hc)) | refine zA ?_ | refine zB ?_ | refine zF ?_)
 refine hJ2 _ _ ⟨x.g.length - (q + 1), by omega, q + 1, rfl, by omega, ?_⟩
 simp only [↓yG, Nat.reduceEqDiff, ↓reduceIte, Int.natCast_add, Int.cast_ofNat_Int, Int.natCast_zero, true_and, and_true, Option.some.injEq, Value.int.injEq, i0, i4, i10, i11, i12, i40, i41]
 exact ⟨hS6.trans hS8, hgn rfl⟩
set_option maxHeartbeats 4000000 in
theorem rCheck_ok {H : GHeap} (hw : H.wf) {v : Value} {l : List Tm} (hv : TR H v l) : ∃ r H', gev G 6 [v] H = some (r, H') ∧ (r = .int .i64 (chkF l : Nat) ∧ Same H H') := by
 refine gev_GW (f := 6) rfl fun Post hPost => ?_
 have hsl := hv.isSl
 have hle := hv.le
 have hS0 := Same.refl hw
 have hP : ∀ (n : Nat) H', chkF l = n → Same H H' → Post (.int .i64 (n : Int)) H' := fun n H' e h => hPost _ _ ⟨by rw [e], h⟩
 clear hPost
 simp only [frameOf, Nat.reduceAdd]
 by_cases h64 : 64 < l.length
 ·repeat' (first | (exfalso; omega) | refine zn ?_ | refine zK rfl ?_ | refine zP rfl ?_ | ((first | refine zm ?_ | skip); intro _; intros; simp (disch := first | exact zd | fail) only [↓yS, yT, gresults, gone, ↓reduceIte, Nat.reduceEqDiff, Nat.reduceAdd, Nat.reduceMul, reduceCtorEq, Int.reduceToNat, g6, hsl.len]; first | (rename_i K k; (first | refine yC (k _ _ ?_) | refine zg (k _ ?_)); clear k K) | (rename_i A B C D a b c d; (first | refine zx (a ?_) | refine zy (b ?_) | refine zz (fun hc => c ?_) (fun hc => d ?_) | refine zv (b ?_) | refine zw (a ?_)) <;> clear a b c d A B C D <;> try simp only [yL] at hc)) | refine zA ?_ | refine zB ?_ | refine zF ?_)
  exact hP 9 _ (if_pos h64) hS0
 have hgo := chkF_go h64
 repeat' (first | (exfalso; omega) | refine zn ?_ | refine zK rfl ?_ | refine zP rfl ?_ | ((first | refine zm ?_ | skip); intro _; intros; simp (disch := first | exact zd | fail) only [↓yS, yT, gresults, gone, ↓reduceIte, Nat.reduceEqDiff, Nat.reduceAdd, Nat.reduceMul, reduceCtorEq, Int.reduceToNat, g6, hsl.len]; first | (rename_i K k; (first | refine yC (k _ _ ?_) | refine zg (k _ ?_)); clear k K) | (rename_i A B C D a b c d; (first | refine zx (a ?_) | refine zy (b ?_) | refine zz (fun hc => c ?_) (fun hc => d ?_) | refine zv (b ?_) | refine zw (a ?_)) <;> clear a b c d A B C D <;> try simp only [yL] at hc)) | refine zA ?_ | refine zB ?_ | refine zF ?_)
 refine GW_loop (fun k fr H1 => ∃ (i : Nat), k = l.length - i ∧ i ≤ l.length ∧ fr.get 0 = some (v) ∧ fr.get 14 = some (v) ∧ fr.get 15 = some (.int .i64 l.length) ∧ fr.get 16 = some (.int .i64 i) ∧ Same H H1 ∧ ∀ j, j < i → chkT l j = 0) ?_ l.length ?_
 rotate_left
 ·refine ⟨0, by omega, by omega, ?_⟩
  simp only [↓yG, Nat.reduceEqDiff, ↓reduceIte, Int.natCast_add, Int.cast_ofNat_Int, Int.natCast_zero, true_and, and_true, Option.some.injEq, Value.int.injEq]
  exact ⟨hS0, fun j hj => absurd hj (Nat.not_lt_zero _)⟩
 rintro k fr H1 ⟨i, rfl, hi, f0, f14, f15, f16, hS, hno⟩ J hJ
 by_cases hil : i < l.length
 case neg =>
  obtain rfl : i = l.length := by omega
  repeat' (first | (exfalso; omega) | refine zn ?_ | refine zK rfl ?_ | refine zP rfl ?_ | ((first | refine zm ?_ | skip); intro _; intros; simp (disch := first | exact zd | fail) only [↓yS, yT, gresults, gone, ↓reduceIte, Nat.reduceEqDiff, Nat.reduceAdd, Nat.reduceMul, reduceCtorEq, Int.reduceToNat, g6, f0, f14, f15, f16]; first | (rename_i K k; (first | refine yC (k _ _ ?_) | refine zg (k _ ?_)); clear k K) | (rename_i A B C D a b c d; (first | refine zx (a ?_) | refine zy (b ?_) | refine zz (fun hc => c ?_) (fun hc => d ?_) | refine zv (b ?_) | refine zw (a ?_)) <;> clear a b c d A B C D <;> try simp only [yL] at hc)) | refine zA ?_ | refine zB ?_ | refine zF ?_)
  exact hP 0 _ (by rw [hgo]; exact fstN_none hno) hS
 have hbad : chkT l i ≠ 0 → chkF l = chkT l i := fun h => by rw [hgo]; exact fstN_some hil hno h
 have hv1 := hv.later hw hS
 have e1 := hv1.rowN hil
 have hm := bang_mem hil
 obtain ⟨hs1, hs2, hs3⟩ := hv.sz _ hm
 have hsr := hv1.tg _ hm
 have hfl := hsr.flat
 have hw1 := hS.wf
 have hlim1 := hw1.1
 unfold chkT at hbad
 have hnx : chkT l i = 0 → ∀ j, j < i + 1 → chkT l j = 0 := fun h j hj => by
  rcases Nat.lt_or_eq_of_le (Nat.le_of_lt_succ hj) with h3 | rfl
  ·exact hno j h3
  ·exact h
 unfold chkT at hnx
 obtain ⟨pv, hpv, hpr⟩ := hv1.pre hw1 (b := i) (by omega)
 generalize l[i]! = x at *
 have hst := gsetn_tm (cs := [.string ⟨#[]⟩, .slice none 0 0]) (x := x) rfl hfl
 have tm0 : (tmC x)[0]? = some (.string (strB x.s)) := rfl
 have tm1 : (tmC x)[1]? = some x.v := rfl
 repeat' (first | (exfalso; omega) | refine zn ?_ | refine zK rfl ?_ | refine zP rfl ?_ | ((first | refine zm ?_ | skip); intro _; intros; simp (disch := first | exact zd | fail) only [↓yS, yT, gresults, gone, ↓reduceIte, Nat.reduceEqDiff, Nat.reduceAdd, Nat.reduceMul, reduceCtorEq, Int.reduceToNat, g6, f0, f14, f15, f16, hsl.ia, e1, hst, tm0, tm1]; first | (rename_i K k; (first | refine yC (k _ _ ?_) | refine zg (k _ ?_)); clear k K) | (rename_i A B C D a b c d; (first | refine zx (a ?_) | refine zy (b ?_) | refine zz (fun hc => c ?_) (fun hc => d ?_) | refine zv (b ?_) | refine zw (a ?_)) <;> clear a b c d A B C D <;> try simp only [yL] at hc)) | refine zA ?_ | refine zB ?_ | refine zF ?_)
 have hS2 : Same H ((H1.add (some (.cells [.string ⟨#[]⟩, .slice none 0 0] 0 true))).put H1.len (.cells (tmC x) 0 true)) := hS.new _ _
 have hS12 : Same H1 ((H1.add (some (.cells [.string ⟨#[]⟩, .slice none 0 0] 0 true))).put H1.len (.cells (tmC x) 0 true)) := (Same.refl hw1).new _ _
 have hrd : ∀ o, ((H1.add (some (.cells [.string ⟨#[]⟩, .slice none 0 0] 0 true))).put H1.len (.cells (tmC x) 0 true)).rd H1.len o = (tmC x)[o]? := fun o => rd_put_same
 have hl2 : ((H1.add (some (.cells [.string ⟨#[]⟩, .slice none 0 0] 0 true))).put H1.len (.cells (tmC x) 0 true)).len = H1.len + 1 := by simp only [len_put, len_add]
 generalize (H1.add (some (.cells [.string ⟨#[]⟩, .slice none 0 0] 0 true))).put H1.len (.cells (tmC x) 0 true) = H2 at *
 have hw2 := hS2.wf
 refine Gw_s fun K' hK' => G1_call (by simp only [gtarget, ↓GArg.ev, ↓evs, ↓Tr.get_set, Nat.reduceEqDiff, if_true, if_false, ↓reduceIte, Option.map_some, f0, f14, f15, f16]; rfl) (one_of (rphrase_ok hs1 _)) fun r3 H3 hq => hK' _ _ ?_
 obtain ⟨rfl, rfl⟩ := hq
 cases hph : phrB x.s with
 | false =>
  rw [hph, if_pos rfl] at hbad
  repeat' (first | (exfalso; omega) | refine zn ?_ | refine zK rfl ?_ | refine zP rfl ?_ | ((first | refine zm ?_ | skip); intro _; intros; simp (disch := first | exact zd | fail) only [↓yS, yT, gresults, gone, ↓reduceIte, Nat.reduceEqDiff, Nat.reduceAdd, Nat.reduceMul, reduceCtorEq, Int.reduceToNat, g6, f0, f14, f15, f16]; first | (rename_i K k; (first | refine yC (k _ _ ?_) | refine zg (k _ ?_)); clear k K) | (rename_i A B C D a b c d; (first | refine zx (a ?_) | refine zy (b ?_) | refine zz (fun hc => c ?_) (fun hc => d ?_) | refine zv (b ?_) | refine zw (a ?_)) <;> clear a b c d A B C D <;> try simp only [yL] at hc)) | refine zA ?_ | refine zB ?_ | refine zF ?_)
  exact hP 4 _ (hbad (by decide)) hS2
 | true =>
 rw [hph, if_neg (by decide)] at hbad hnx
 have hp2 := hpv _ hS12
 have hr4 : ∀ H', Same H3 H' → ∀ o, H'.rd H1.len o = (tmC x)[o]? := fun H' h o => by rw [h.rd (by omega)]; exact hrd o
 have hslp := hpr.isSl
 rw [List.length_take, Nat.min_eq_left (by omega)] at hslp
 repeat' (first | (exfalso; omega) | refine zn ?_ | refine zK rfl ?_ | refine zP rfl ?_ | ((first | refine zm ?_ | skip); intro _; intros; simp (disch := first | exact zd | fail) only [↓yS, yT, gresults, gone, ↓reduceIte, Nat.reduceEqDiff, Nat.reduceAdd, Nat.reduceMul, reduceCtorEq, Int.reduceToNat, g6, f0, f14, f15, f16, hp2, hslp.len]; first | (rename_i K k; (first | refine yC (k _ _ ?_) | refine zg (k _ ?_)); clear k K) | (rename_i A B C D a b c d; (first | refine zx (a ?_) | refine zy (b ?_) | refine zz (fun hc => c ?_) (fun hc => d ?_) | refine zv (b ?_) | refine zw (a ?_)) <;> clear a b c d A B C D <;> try simp only [yL] at hc)) | refine zA ?_ | refine zB ?_ | refine zF ?_)
 generalize hA : l.take i = A at *
 have hAl : A.length = i := by rw [← hA, List.length_take]; omega
 refine GW_loop (fun k fr H4 => ∃ (q : Nat), k = i - q ∧ q ≤ i ∧ fr.get 0 = some (v) ∧ fr.get 4 = some (.pointer (some ⟨H1.len, 0, none⟩)) ∧ fr.get 14 = some (v) ∧ fr.get 15 = some (.int .i64 l.length) ∧ fr.get 16 = some (.int .i64 i) ∧ fr.get 27 = some (pv) ∧ fr.get 28 = some (.int .i64 i) ∧ fr.get 29 = some (.int .i64 q) ∧ Same H3 H4 ∧ (A.any fun y => alkB y.s x.s) = (A.drop q).any fun y => alkB y.s x.s) ?_ i ?_
 rotate_left
 ·refine ⟨0, by omega, by omega, ?_⟩
  simp only [↓yG, Nat.reduceEqDiff, ↓reduceIte, Int.natCast_add, Int.cast_ofNat_Int, Int.natCast_zero, true_and, and_true, Option.some.injEq, Value.int.injEq, f0, f14, f15, f16]
  exact ⟨Same.refl hw2, rfl⟩
 rintro k fr H4 ⟨q, rfl, hq, i0, i4, i14, i15, i16, i27, i28, i29, hS4, han⟩ J2 hJ2
 have hS5 := hS2.trans hS4
 have hS14 := hS12.trans hS4
 have hw4 := hS4.wf
 have hlim4 := hw4.1
 by_cases hqi : q < i
 ·have hp4 := hpr.later hw1 hS14
  have e4 := hp4.rowN (k := q) (by omega)
  have hm4 := bang_mem (l := A) (j := q) (by omega)
  have hs4 := (hp4.sz _ hm4).1
  have hf4 := (hp4.tg _ hm4).flat
  have han2 : (A.any fun y => alkB y.s x.s) = (alkB A[q]!.s x.s || (A.drop (q + 1)).any fun y => alkB y.s x.s) := by
   rw [han, List.drop_eq_getElem_cons (by omega), getElem!_pos A q (by omega)]; rfl
  generalize A[q]! = y at *
  have hst4 := gsetn_tm (cs := [.string ⟨#[]⟩, .slice none 0 0]) (x := y) rfl hf4
  have ty0 : (tmC y)[0]? = some (.string (strB y.s)) := rfl
  have hlt4 : H1.len < H4.len := by have := hS4.len; omega
  have hr40 := hr4 _ hS4 0
  rw [tm0] at hr40
  repeat' (first | (exfalso; omega) | refine zn ?_ | refine zK rfl ?_ | refine zP rfl ?_ | ((first | refine zm ?_ | skip); intro _; intros; simp (disch := first | exact zd | fail) only [↓yS, yT, gresults, gone, ↓reduceIte, Nat.reduceEqDiff, Nat.reduceAdd, Nat.reduceMul, reduceCtorEq, Int.reduceToNat, g6, i0, i4, i14, i15, i16, i27, i28, i29, hslp.ia, e4, hst4, ty0, hr40]; first | (rename_i K k; (first | refine yC (k _ _ ?_) | refine zg (k _ ?_)); clear k K) | (rename_i A B C D a b c d; (first | refine zx (a ?_) | refine zy (b ?_) | refine zz (fun hc => c ?_) (fun hc => d ?_) | refine zv (b ?_) | refine zw (a ?_)) <;> clear a b c d A B C D <;> try simp only [yL] at hc)) | refine zA ?_ | refine zB ?_ | refine zF ?_)
  have hS6 : Same H3 ((H4.add (some (.cells [.string ⟨#[]⟩, .slice none 0 0] 0 true))).put H4.len (.cells (tmC y) 0 true)) := hS4.new _ _
  generalize (H4.add (some (.cells [.string ⟨#[]⟩, .slice none 0 0] 0 true))).put H4.len (.cells (tmC y) 0 true) = H6 at *
  refine Gw_s fun K' hK' => G1_call (by simp only [gtarget, ↓GArg.ev, ↓evs, ↓Tr.get_set, Nat.reduceEqDiff, if_true, if_false, ↓reduceIte, Option.map_some, i0, i4, i14, i15, i16, i27, i28, i29]; rfl) (one_of (ralike_ok hs4 hs1 _)) fun r8 H8 hq8 => hK' _ _ ?_
  obtain ⟨rfl, rfl⟩ := hq8
  cases hc : alkB y.s x.s with
  | true =>
   rw [hc, Bool.true_or] at han2
   rw [han2, if_pos rfl] at hbad
   repeat' (first | (exfalso; omega) | refine zn ?_ | refine zK rfl ?_ | refine zP rfl ?_ | ((first | refine zm ?_ | skip); intro _; intros; simp (disch := first | exact zd | fail) only [↓yS, yT, gresults, gone, ↓reduceIte, Nat.reduceEqDiff, Nat.reduceAdd, Nat.reduceMul, reduceCtorEq, Int.reduceToNat, g6, i0, i4, i14, i15, i16, i27, i28, i29]; first | (rename_i K k; (first | refine yC (k _ _ ?_) | refine zg (k _ ?_)); clear k K) | (rename_i A B C D a b c d; (first | refine zx (a ?_) | refine zy (b ?_) | refine zz (fun hc => c ?_) (fun hc => d ?_) | refine zv (b ?_) | refine zw (a ?_)) <;> clear a b c d A B C D <;> try simp only [yL] at hc)) | refine zA ?_ | refine zB ?_ | refine zF ?_)
   exact hP 7 _ (hbad (by decide)) (hS2.trans hS6)
  | false =>
   rw [hc, Bool.false_or] at han2
   repeat' (first | (exfalso; omega) | refine zn ?_ | refine zK rfl ?_ | refine zP rfl ?_ | ((first | refine zm ?_ | skip); intro _; intros; simp (disch := first | exact zd | fail) only [↓yS, yT, gresults, gone, ↓reduceIte, Nat.reduceEqDiff, Nat.reduceAdd, Nat.reduceMul, reduceCtorEq, Int.reduceToNat, g6, i0, i4, i14, i15, i16, i27, i28, i29]; first | (rename_i K k; (first | refine yC (k _ _ ?_) | refine zg (k _ ?_)); clear k K) | (rename_i A B C D a b c d; (first | refine zx (a ?_) | refine zy (b ?_) | refine zz (fun hc => c ?_) (fun hc => d ?_) | refine zv (b ?_) | refine zw (a ?_)) <;> clear a b c d A B C D <;> try simp only [yL] at hc)) | refine zA ?_ | refine zB ?_ | refine zF ?_)
   refine hJ2 _ _ ⟨i - (q + 1), by omega, q + 1, rfl, by omega, ?_⟩
   simp only [↓yG, Nat.reduceEqDiff, ↓reduceIte, Int.natCast_add, Int.cast_ofNat_Int, Int.natCast_zero, true_and, and_true, Option.some.injEq, Value.int.injEq, i0, i4, i14, i15, i16, i27, i28]
   exact ⟨hS6, han2⟩
 obtain rfl : q = i := by omega
 have han3 : (A.any fun y => alkB y.s x.s) = false := by rw [han, List.drop_eq_nil_of_le (by omega)]; rfl
 rw [han3, if_neg (by decide)] at hbad hnx
 have hr41 := hr4 _ hS4 1
 rw [tm1] at hr41
 have hslx := hsr.rd.isSl
 by_cases hln : x.g.length < 1 ∨ 8 < x.g.length
 ·rw [if_pos hln] at hbad
  repeat' (first | (exfalso; omega) | refine zn ?_ | refine zK rfl ?_ | refine zP rfl ?_ | ((first | refine zm ?_ | skip); intro _; intros; simp (disch := first | exact zd | fail) only [↓yS, yT, gresults, gone, ↓reduceIte, Nat.reduceEqDiff, Nat.reduceAdd, Nat.reduceMul, reduceCtorEq, Int.reduceToNat, g6, i0, i4, i14, i15, i16, i27, i28, i29, hr41, hslx.len]; first | (rename_i K k; (first | refine yC (k _ _ ?_) | refine zg (k _ ?_)); clear k K) | (rename_i A B C D a b c d; (first | refine zx (a ?_) | refine zy (b ?_) | refine zz (fun hc => c ?_) (fun hc => d ?_) | refine zv (b ?_) | refine zw (a ?_)) <;> clear a b c d A B C D <;> try simp only [yL] at hc)) | refine zA ?_ | refine zB ?_ | refine zF ?_)
  all_goals exact hP 9 _ (hbad (by decide)) hS5
 rw [if_neg hln] at hbad hnx
 repeat' (first | (exfalso; omega) | refine zn ?_ | refine zK rfl ?_ | refine zP rfl ?_ | ((first | refine zm ?_ | skip); intro _; intros; simp (disch := first | exact zd | fail) only [↓yS, yT, gresults, gone, ↓reduceIte, Nat.reduceEqDiff, Nat.reduceAdd, Nat.reduceMul, reduceCtorEq, Int.reduceToNat, g6, i0, i4, i14, i15, i16, i27, i28, i29, hr41, hslx.len]; first | (rename_i K k; (first | refine yC (k _ _ ?_) | refine zg (k _ ?_)); clear k K) | (rename_i A B C D a b c d; (first | refine zx (a ?_) | refine zy (b ?_) | refine zz (fun hc => c ?_) (fun hc => d ?_) | refine zv (b ?_) | refine zw (a ?_)) <;> clear a b c d A B C D <;> try simp only [yL] at hc)) | refine zA ?_ | refine zB ?_ | refine zF ?_)
 have hnG : (∀ j, j < x.g.length → chkG x.g j = 0) → fstN (chkG x.g) x.g.length = 0 := fstN_none
 refine GW_loop (fun k fr H6 => ∃ (p : Nat), k = x.g.length - p ∧ p ≤ x.g.length ∧ fr.get 0 = some (v) ∧ fr.get 4 = some (.pointer (some ⟨H1.len, 0, none⟩)) ∧ fr.get 14 = some (v) ∧ fr.get 15 = some (.int .i64 l.length) ∧ fr.get 16 = some (.int .i64 q) ∧ fr.get 50 = some (x.v) ∧ fr.get 51 = some (.int .i64 x.g.length) ∧ fr.get 52 = some (.int .i64 p) ∧ Same H4 H6 ∧ ∀ j, j < p → chkG x.g j = 0) ?_ x.g.length ?_
 rotate_left
 ·refine ⟨0, by omega, by omega, ?_⟩
  simp only [↓yG, Nat.reduceEqDiff, ↓reduceIte, Int.natCast_add, Int.cast_ofNat_Int, Int.natCast_zero, true_and, and_true, Option.some.injEq, Value.int.injEq, i0, i4, i14, i15, i16]
  exact ⟨Same.refl hS5.wf, fun j hj => absurd hj (Nat.not_lt_zero _)⟩
 rintro k fr H6 ⟨p, rfl, hp, j0, j4, j14, j15, j16, j50, j51, j52, hS6, hgno⟩ J3 hJ3
 have hS7 := hS5.trans hS6
 have hS46 := hS4.trans hS6
 have hS16 := hS12.trans hS46
 by_cases hql : p < x.g.length
 case neg =>
  obtain rfl : p = x.g.length := by omega
  repeat' (first | (exfalso; omega) | refine zn ?_ | refine zK rfl ?_ | refine zP rfl ?_ | ((first | refine zm ?_ | skip); intro _; intros; simp (disch := first | exact zd | fail) only [↓yS, yT, gresults, gone, ↓reduceIte, Nat.reduceEqDiff, Nat.reduceAdd, Nat.reduceMul, reduceCtorEq, Int.reduceToNat, g6, j0, j4, j14, j15, j16, j50, j51, j52]; first | (rename_i K k; (first | refine yC (k _ _ ?_) | refine zg (k _ ?_)); clear k K) | (rename_i A B C D a b c d; (first | refine zx (a ?_) | refine zy (b ?_) | refine zz (fun hc => c ?_) (fun hc => d ?_) | refine zv (b ?_) | refine zw (a ?_)) <;> clear a b c d A B C D <;> try simp only [yL] at hc)) | refine zA ?_ | refine zB ?_ | refine zF ?_)
  refine hJ _ _ ⟨l.length - (q + 1), by omega, q + 1, rfl, by omega, ?_⟩
  simp only [↓yG, Nat.reduceEqDiff, ↓reduceIte, Int.natCast_add, Int.cast_ofNat_Int, Int.natCast_zero, true_and, and_true, Option.some.injEq, Value.int.injEq, j0, j14, j15]
  exact ⟨hS7, hnx (hnG hgno)⟩
 have hgb : chkG x.g p ≠ 0 → chkF l = chkG x.g p := fun h => by
  have h1 := fstN_some hql hgno h
  rw [← h1]
  exact hbad (by rw [h1]; exact h)
 have hgn : chkG x.g p = 0 → ∀ j, j < p + 1 → chkG x.g j = 0 := fun h j hj => by
  rcases Nat.lt_or_eq_of_le (Nat.le_of_lt_succ hj) with h3 | rfl
  ·exact hgno j h3
  ·exact h
 unfold chkG at hgb hgn
 have hsr6 := GArg1.same hsr hw1 hS16
 have e6 := SRd.at_ hsr6 hql
 have hgl := hs3 _ (bang_mem hql)
 obtain ⟨qv, hqv, hqr⟩ := SRd.pre hS7.wf hsr6 (b := p) (by omega)
 have hr61 := hr4 _ hS46 1
 rw [tm1] at hr61
 have hq6 := hqv _ (Same.refl hS7.wf)
 generalize x.g[p]! = s at *
 repeat' (first | (exfalso; omega) | refine zn ?_ | refine zK rfl ?_ | refine zP rfl ?_ | ((first | refine zm ?_ | skip); intro _; intros; simp (disch := first | exact zd | fail) only [↓yS, yT, gresults, gone, ↓reduceIte, Nat.reduceEqDiff, Nat.reduceAdd, Nat.reduceMul, reduceCtorEq, Int.reduceToNat, g6, j0, j4, j14, j15, j16, j50, j51, j52, hslx.ia, e6]; first | (rename_i K k; (first | refine yC (k _ _ ?_) | refine zg (k _ ?_)); clear k K) | (rename_i A B C D a b c d; (first | refine zx (a ?_) | refine zy (b ?_) | refine zz (fun hc => c ?_) (fun hc => d ?_) | refine zv (b ?_) | refine zw (a ?_)) <;> clear a b c d A B C D <;> try simp only [yL] at hc)) | refine zA ?_ | refine zB ?_ | refine zF ?_)
 refine Gw_s fun K' hK' => G1_call (by simp only [gtarget, ↓GArg.ev, ↓evs, ↓Tr.get_set, Nat.reduceEqDiff, if_true, if_false, ↓reduceIte, Option.map_some, j0, j4, j14, j15, j16, j50, j51, j52]; rfl) (one_of (rphrase_ok hgl _)) fun r8 H8 hq8 => hK' _ _ ?_
 obtain ⟨rfl, rfl⟩ := hq8
 cases hph2 : phrB s with
 | false =>
  rw [hph2, if_pos rfl] at hgb
  repeat' (first | (exfalso; omega) | refine zn ?_ | refine zK rfl ?_ | refine zP rfl ?_ | ((first | refine zm ?_ | skip); intro _; intros; simp (disch := first | exact zd | fail) only [↓yS, yT, gresults, gone, ↓reduceIte, Nat.reduceEqDiff, Nat.reduceAdd, Nat.reduceMul, reduceCtorEq, Int.reduceToNat, g6, j0, j4, j14, j15, j16, j50, j51, j52]; first | (rename_i K k; (first | refine yC (k _ _ ?_) | refine zg (k _ ?_)); clear k K) | (rename_i A B C D a b c d; (first | refine zx (a ?_) | refine zy (b ?_) | refine zz (fun hc => c ?_) (fun hc => d ?_) | refine zv (b ?_) | refine zw (a ?_)) <;> clear a b c d A B C D <;> try simp only [yL] at hc)) | refine zA ?_ | refine zB ?_ | refine zF ?_)
  exact hP 4 _ (hgb (by decide)) hS7
 | true =>
 rw [hph2, if_neg (by decide)] at hgb hgn
 have hgs : ∀ t ∈ x.g.take p, t.length ≤ 16777216 := fun t ht => hs3 t (List.mem_of_mem_take ht)
 have hslq := hqr.rd.isSl
 rw [List.length_take, Nat.min_eq_left (by omega)] at hslq
 generalize hB : x.g.take p = B at *
 have hBl : B.length = p := by rw [← hB, List.length_take]; omega
 repeat' (first | (exfalso; omega) | refine zn ?_ | refine zK rfl ?_ | refine zP rfl ?_ | ((first | refine zm ?_ | skip); intro _; intros; simp (disch := first | exact zd | fail) only [↓yS, yT, gresults, gone, ↓reduceIte, Nat.reduceEqDiff, Nat.reduceAdd, Nat.reduceMul, reduceCtorEq, Int.reduceToNat, g6, j0, j4, j14, j15, j16, j50, j51, j52, hr61, hq6, hslq.len]; first | (rename_i K k; (first | refine yC (k _ _ ?_) | refine zg (k _ ?_)); clear k K) | (rename_i A B C D a b c d; (first | refine zx (a ?_) | refine zy (b ?_) | refine zz (fun hc => c ?_) (fun hc => d ?_) | refine zv (b ?_) | refine zw (a ?_)) <;> clear a b c d A B C D <;> try simp only [yL] at hc)) | refine zA ?_ | refine zB ?_ | refine zF ?_)
 refine GW_loop (fun k fr H9 => ∃ (z : Nat), k = p - z ∧ z ≤ p ∧ fr.get 0 = some (v) ∧ fr.get 4 = some (.pointer (some ⟨H1.len, 0, none⟩)) ∧ fr.get 8 = some (.string (strB s)) ∧ fr.get 14 = some (v) ∧ fr.get 15 = some (.int .i64 l.length) ∧ fr.get 16 = some (.int .i64 q) ∧ fr.get 50 = some (x.v) ∧ fr.get 51 = some (.int .i64 x.g.length) ∧ fr.get 52 = some (.int .i64 p) ∧ fr.get 63 = some (qv) ∧ fr.get 64 = some (.int .i64 p) ∧ fr.get 65 = some (.int .i64 z) ∧ H9 = H8 ∧ (B.any fun y => alkB y s) = (B.drop z).any fun y => alkB y s) ?_ p ?_
 rotate_left
 ·refine ⟨0, by omega, by omega, ?_⟩
  simp only [↓yG, Nat.reduceEqDiff, ↓reduceIte, Int.natCast_add, Int.cast_ofNat_Int, Int.natCast_zero, true_and, and_true, Option.some.injEq, Value.int.injEq, j0, j4, j14, j15, j16, j50, j51, j52]
  first | rfl | exact ⟨rfl, rfl⟩
 rintro k fr H9 ⟨z, rfl, hz, k0, k4, k8, k14, k15, k16, k50, k51, k52, k63, k64, k65, rfl, han9⟩ J4 hJ4
 by_cases hzp : z < p
 ·have e9 := hqr.at_ (j := z) (by omega)
  have hm9 := hgs _ (bang_mem (l := B) (j := z) (by omega))
  have han4 : (B.any fun y => alkB y s) = (alkB B[z]! s || (B.drop (z + 1)).any fun y => alkB y s) := by
   rw [han9, List.drop_eq_getElem_cons (by omega), getElem!_pos B z (by omega)]; rfl
  generalize B[z]! = y at *
  repeat' (first | (exfalso; omega) | refine zn ?_ | refine zK rfl ?_ | refine zP rfl ?_ | ((first | refine zm ?_ | skip); intro _; intros; simp (disch := first | exact zd | fail) only [↓yS, yT, gresults, gone, ↓reduceIte, Nat.reduceEqDiff, Nat.reduceAdd, Nat.reduceMul, reduceCtorEq, Int.reduceToNat, g6, k0, k4, k8, k14, k15, k16, k50, k51, k52, k63, k64, k65, hslq.ia, e9]; first | (rename_i K k; (first | refine yC (k _ _ ?_) | refine zg (k _ ?_)); clear k K) | (rename_i A B C D a b c d; (first | refine zx (a ?_) | refine zy (b ?_) | refine zz (fun hc => c ?_) (fun hc => d ?_) | refine zv (b ?_) | refine zw (a ?_)) <;> clear a b c d A B C D <;> try simp only [yL] at hc)) | refine zA ?_ | refine zB ?_ | refine zF ?_)
  refine Gw_s fun K' hK' => G1_call (by simp only [gtarget, ↓GArg.ev, ↓evs, ↓Tr.get_set, Nat.reduceEqDiff, if_true, if_false, ↓reduceIte, Option.map_some, k0, k4, k8, k14, k15, k16, k50, k51, k52, k63, k64, k65]; rfl) (one_of (ralike_ok hm9 hgl _)) fun r9 H10 hq9 => hK' _ _ ?_
  obtain ⟨rfl, rfl⟩ := hq9
  cases hc : alkB y s with
  | true =>
   rw [hc, Bool.true_or] at han4
   rw [han4, if_pos rfl] at hgb
   repeat' (first | (exfalso; omega) | refine zn ?_ | refine zK rfl ?_ | refine zP rfl ?_ | ((first | refine zm ?_ | skip); intro _; intros; simp (disch := first | exact zd | fail) only [↓yS, yT, gresults, gone, ↓reduceIte, Nat.reduceEqDiff, Nat.reduceAdd, Nat.reduceMul, reduceCtorEq, Int.reduceToNat, g6, k0, k4, k8, k14, k15, k16, k50, k51, k52, k63, k64, k65]; first | (rename_i K k; (first | refine yC (k _ _ ?_) | refine zg (k _ ?_)); clear k K) | (rename_i A B C D a b c d; (first | refine zx (a ?_) | refine zy (b ?_) | refine zz (fun hc => c ?_) (fun hc => d ?_) | refine zv (b ?_) | refine zw (a ?_)) <;> clear a b c d A B C D <;> try simp only [yL] at hc)) | refine zA ?_ | refine zB ?_ | refine zF ?_)
   exact hP 7 _ (hgb (by decide)) hS7
  | false =>
   rw [hc, Bool.false_or] at han4
   repeat' (first | (exfalso; omega) | refine zn ?_ | refine zK rfl ?_ | refine zP rfl ?_ | ((first | refine zm ?_ | skip); intro _; intros; simp (disch := first | exact zd | fail) only [↓yS, yT, gresults, gone, ↓reduceIte, Nat.reduceEqDiff, Nat.reduceAdd, Nat.reduceMul, reduceCtorEq, Int.reduceToNat, g6, k0, k4, k8, k14, k15, k16, k50, k51, k52, k63, k64, k65]; first | (rename_i K k; (first | refine yC (k _ _ ?_) | refine zg (k _ ?_)); clear k K) | (rename_i A B C D a b c d; (first | refine zx (a ?_) | refine zy (b ?_) | refine zz (fun hc => c ?_) (fun hc => d ?_) | refine zv (b ?_) | refine zw (a ?_)) <;> clear a b c d A B C D <;> try simp only [yL] at hc)) | refine zA ?_ | refine zB ?_ | refine zF ?_)
   refine hJ4 _ _ ⟨p - (z + 1), by omega, z + 1, rfl, by omega, ?_⟩
   simp only [↓yG, Nat.reduceEqDiff, ↓reduceIte, Int.natCast_add, Int.cast_ofNat_Int, Int.natCast_zero, true_and, and_true, Option.some.injEq, Value.int.injEq, k0, k4, k8, k14, k15, k16, k50, k51, k52, k63, k64, han4]
 obtain rfl : z = p := by omega
 have han5 : (B.any fun y => alkB y s) = false := by rw [han9, List.drop_eq_nil_of_le (by omega)]; rfl
 rw [han5, if_neg (by decide)] at hgn
 repeat' (first | (exfalso; omega) | refine zn ?_ | refine zK rfl ?_ | refine zP rfl ?_ | ((first | refine zm ?_ | skip); intro _; intros; simp (disch := first | exact zd | fail) only [↓yS, yT, gresults, gone, ↓reduceIte, Nat.reduceEqDiff, Nat.reduceAdd, Nat.reduceMul, reduceCtorEq, Int.reduceToNat, g6, k0, k4, k8, k14, k15, k16, k50, k51, k52, k63, k64, k65]; first | (rename_i K k; (first | refine yC (k _ _ ?_) | refine zg (k _ ?_)); clear k K) | (rename_i A B C D a b c d; (first | refine zx (a ?_) | refine zy (b ?_) | refine zz (fun hc => c ?_) (fun hc => d ?_) | refine zv (b ?_) | refine zw (a ?_)) <;> clear a b c d A B C D <;> try simp only [yL] at hc)) | refine zA ?_ | refine zB ?_ | refine zF ?_)
 refine hJ3 _ _ ⟨x.g.length - (z + 1), by omega, z + 1, rfl, by omega, ?_⟩
 simp only [↓yG, Nat.reduceEqDiff, ↓reduceIte, Int.natCast_add, Int.cast_ofNat_Int, Int.natCast_zero, true_and, and_true, Option.some.injEq, Value.int.injEq, k0, k4, k14, k15, k16, k50, k51]
 exact ⟨hS6, hgn rfl⟩
end Go.Gh
