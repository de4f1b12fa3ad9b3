/-
  As in charset's texts: valid strings, their lengths, their characters, their parts, walked.
-/
import Derived.Test.YtjjcgaompnjbdaaDoorSyC3
namespace Go.Gh
set_option linter.unusedSimpArgs false
set_option linter.unusedVariables false
set_option maxHeartbeats 4000000
open Go.RowKit
set_option maxRecDepth 4000

theorem charL_yes {s : ByteArray} (h : vldB s = true) : charL s = rns s := if_pos h
theorem charL_no {s : ByteArray} (h : vldB s = false) : charL s = [] := if_neg (by rw [h]; decide)
section
variable {s : ByteArray} (hs : s.size ≤ 140737488355328)
include hs
theorem lvalid_ok (H : GHeap) : gev G 41 [.string s] H = some (.bool (Go.Lib.validD s.data.toList), H) :=
  gev_lib (f := 41) rfl rfl (by simp only [runValid]; rw [if_pos (by omega)]) rfl
theorem valid_ok (H : GHeap) : gev G 26 [.string s] H = some (.bool (vldB s), H) := by
  refine gev_GWP (f := 26) rfl rfl rfl (fun Post hPost => ?_) H
  simp only [frameOf, Nat.reduceAdd]
  repeat' (first | refine zn ?_ | refine zK rfl ?_ | refine zP rfl ?_ | ((first | refine zm ?_ | skip); intro _; intros; simp (disch := first | exact zd | fail) only [↓yS, yT, gresults, gone, ↓reduceIte, Nat.reduceEqDiff, Nat.reduceAdd, Nat.reduceMul, reduceCtorEq, Int.reduceToNat, g26]; first | (rename_i K k; (first | refine yC (k _ _ ?_) | refine zg (k _ ?_)); clear k K) | (rename_i A B C D a b c d; (first | refine zx (a ?_) | refine zy (b ?_) | refine zz (fun hc => c ?_) (fun hc => d ?_) | refine zv (b ?_) | refine zw (a ?_)) <;> clear a b c d A B C D <;> try simp only [yL] at hc)) | refine zA ?_ | refine zB ?_ | refine zF ?_)
  refine Gw_s fun K' hK' => G1_call (by simp only [gtarget, ↓GArg.ev, ↓evs, ↓Tr.get_set, Nat.reduceEqDiff, if_true, if_false, ↓reduceIte, Option.map_some]; rfl) (one_of (lvalid_ok (s := s) (by omega) _)) fun r1 H1 hq => hK' _ _ ?_
  obtain ⟨rfl, rfl⟩ := hq
  repeat' (first | refine zn ?_ | refine zK rfl ?_ | refine zP rfl ?_ | ((first | refine zm ?_ | skip); intro _; intros; simp (disch := first | exact zd | fail) only [↓yS, yT, gresults, gone, ↓reduceIte, Nat.reduceEqDiff, Nat.reduceAdd, Nat.reduceMul, reduceCtorEq, Int.reduceToNat, g26]; first | (rename_i K k; (first | refine yC (k _ _ ?_) | refine zg (k _ ?_)); clear k K) | (rename_i A B C D a b c d; (first | refine zx (a ?_) | refine zy (b ?_) | refine zz (fun hc => c ?_) (fun hc => d ?_) | refine zv (b ?_) | refine zw (a ?_)) <;> clear a b c d A B C D <;> try simp only [yL] at hc)) | refine zA ?_ | refine zB ?_ | refine zF ?_)
  case refine_1 =>
    have he : vldB s = false := by
      cases h : vldB s with
      | false => rfl
      | true => rw [vld_valid h] at hc; cases hc
    rw [he] at hPost
    exact hPost _
  case refine_2 =>
    refine GW_loop (fun k fr H1 => ∃ (l : List Nat) (p : Value), k = l.length ∧ fr.get 9 = some (p) ∧ ItAt H1 p l ∧ vldB s = l.all fun x => decide (0 ≤ idxN x)) ?_ (rns s).length ?_
    case refine_2 =>
      refine ⟨rns s, .pointer (some ⟨0, 0, none⟩), rfl, ?_⟩
      simp only [↓yG, Nat.reduceEqDiff, ↓reduceIte, Int.natCast_add, Int.cast_ofNat_Int, Int.natCast_zero, true_and, and_true, Option.some.injEq, Value.int.injEq]
      exact ⟨ItAt.new (H := ⟨.nil, 0, 0⟩) (Nat.le_refl _), rfl⟩
    rintro k fr H1 ⟨l, p, rfl, f9, hI, hf⟩ J hJ
    cases l with
    | nil =>
      have hx := hI.nil
      repeat' (first | refine zn ?_ | refine zK rfl ?_ | refine zP rfl ?_ | ((first | refine zm ?_ | skip); intro _; intros; simp (disch := first | exact zd | fail) only [↓yS, yT, gresults, gone, ↓reduceIte, Nat.reduceEqDiff, Nat.reduceAdd, Nat.reduceMul, reduceCtorEq, Int.reduceToNat, g26, f9, hx]; first | (rename_i K k; (first | refine yC (k _ _ ?_) | refine zg (k _ ?_)); clear k K) | (rename_i A B C D a b c d; (first | refine zx (a ?_) | refine zy (b ?_) | refine zz (fun hc => c ?_) (fun hc => d ?_) | refine zv (b ?_) | refine zw (a ?_)) <;> clear a b c d A B C D <;> try simp only [yL] at hc)) | refine zA ?_ | refine zB ?_ | refine zF ?_)
      have he : vldB s = true := hf
      rw [he] at hPost
      exact hPost _
    | cons x l =>
      obtain ⟨pos, o, hx, hI', hx'⟩ := hI.cons
      repeat' (first | refine zn ?_ | refine zK rfl ?_ | refine zP rfl ?_ | ((first | refine zm ?_ | skip); intro _; intros; simp (disch := first | exact zd | fail) only [↓yS, yT, gresults, gone, ↓reduceIte, Nat.reduceEqDiff, Nat.reduceAdd, Nat.reduceMul, reduceCtorEq, Int.reduceToNat, g26, f9, hx]; first | (rename_i K k; (first | refine yC (k _ _ ?_) | refine zg (k _ ?_)); clear k K) | (rename_i A B C D a b c d; (first | refine zx (a ?_) | refine zy (b ?_) | refine zz (fun hc => c ?_) (fun hc => d ?_) | refine zv (b ?_) | refine zw (a ?_)) <;> clear a b c d A B C D <;> try simp only [yL] at hc)) | refine zA ?_ | refine zB ?_ | refine zF ?_)
      refine Gw_s fun K' hK' => G1_call (by simp only [gtarget, ↓GArg.ev, ↓evs, ↓Tr.get_set, Nat.reduceEqDiff, if_true, if_false, ↓reduceIte, Option.map_some, f9]; rfl) (one_of (idx_ok (r := (x : Int)) (by omega) _)) fun r1 H2 hq => hK' _ _ ?_
      obtain ⟨rfl, rfl⟩ := hq
      repeat' (first | refine zn ?_ | refine zK rfl ?_ | refine zP rfl ?_ | ((first | refine zm ?_ | skip); intro _; intros; simp (disch := first | exact zd | fail) only [↓yS, yT, gresults, gone, ↓reduceIte, Nat.reduceEqDiff, Nat.reduceAdd, Nat.reduceMul, reduceCtorEq, Int.reduceToNat, g26, f9]; first | (rename_i K k; (first | refine yC (k _ _ ?_) | refine zg (k _ ?_)); clear k K) | (rename_i A B C D a b c d; (first | refine zx (a ?_) | refine zy (b ?_) | refine zz (fun hc => c ?_) (fun hc => d ?_) | refine zv (b ?_) | refine zw (a ?_)) <;> clear a b c d A B C D <;> try simp only [yL] at hc)) | refine zA ?_ | refine zB ?_ | refine zF ?_)
      case cons.refine_1 =>
        have he : vldB s = false := by
          rw [hf, List.all_cons, decide_eq_false (by omega)]; rfl
        rw [he] at hPost
        exact hPost _
      case cons.refine_2 =>
        refine hJ _ _ ⟨l.length, by simp, l, p, rfl, ?_⟩
        simp only [↓yG, Nat.reduceEqDiff, ↓reduceIte, Int.natCast_add, Int.cast_ofNat_Int, Int.natCast_zero, true_and, and_true, Option.some.injEq, Value.int.injEq, f9]
        exact ⟨hI', by rw [hf, List.all_cons, decide_eq_true (by omega), Bool.true_and]⟩
end
section
variable {s : ByteArray} (hs : s.size ≤ 4398046511104)
include hs
end
theorem count_ok {s : ByteArray} (hs : s.size ≤ 4611686018427387904) (H : GHeap) : gev G 68 [.string s] H = some (.int .i64 (rns s).length, H) := by
  refine gev_GWP (f := 68) rfl rfl rfl (fun Post hPost => ?_) H
  have hlen := rns_len s
  simp only [frameOf, Nat.reduceAdd]
  repeat' (first | refine zn ?_ | refine zK rfl ?_ | refine zP rfl ?_ | ((first | refine zm ?_ | skip); intro _; intros; simp (disch := first | exact zd | fail) only [↓yS, yT, gresults, gone, ↓reduceIte, Nat.reduceEqDiff, Nat.reduceAdd, Nat.reduceMul, reduceCtorEq, Int.reduceToNat, g68]; first | (rename_i K k; (first | refine yC (k _ _ ?_) | refine zg (k _ ?_)); clear k K) | (rename_i A B C D a b c d; (first | refine zx (a ?_) | refine zy (b ?_) | refine zz (fun hc => c ?_) (fun hc => d ?_) | refine zv (b ?_) | refine zw (a ?_)) <;> clear a b c d A B C D <;> try simp only [yL] at hc)) | refine zA ?_ | refine zB ?_ | refine zF ?_)
  refine GW_loop (fun k fr H1 => ∃ (rest : List Nat) (p : Value) (j : Nat), k = rest.length ∧ fr.get 2 = some (.int .i64 j) ∧ fr.get 4 = some (p) ∧ ItAt H1 p rest ∧ j + rest.length = (rns s).length ∧ H1.wf) ?_ (rns s).length ?_
  case refine_2 =>
    refine ⟨rns s, .pointer (some ⟨0, 0, none⟩), 0, rfl, ?_⟩
    simp only [↓yG, Nat.reduceEqDiff, ↓reduceIte, Int.natCast_add, Int.cast_ofNat_Int, Int.natCast_zero, true_and, and_true, Option.some.injEq, Value.int.injEq]
    exact ⟨ItAt.new (H := ⟨.nil, 0, 0⟩) (Nat.le_refl _), by omega, ((Same.refl root_wf).add _).wf⟩
  rintro k fr H1 ⟨rest, p, j, rfl, f2, f4, hI, hj, hw1⟩ J hJ
  cases rest with
  | nil =>
    have hx := hI.nil
    repeat' (first | refine zn ?_ | refine zK rfl ?_ | refine zP rfl ?_ | ((first | refine zm ?_ | skip); intro _; intros; simp (disch := first | exact zd | fail) only [↓yS, yT, gresults, gone, ↓reduceIte, Nat.reduceEqDiff, Nat.reduceAdd, Nat.reduceMul, reduceCtorEq, Int.reduceToNat, g68, f2, f4, hx]; first | (rename_i K k; (first | refine yC (k _ _ ?_) | refine zg (k _ ?_)); clear k K) | (rename_i A B C D a b c d; (first | refine zx (a ?_) | refine zy (b ?_) | refine zz (fun hc => c ?_) (fun hc => d ?_) | refine zv (b ?_) | refine zw (a ?_)) <;> clear a b c d A B C D <;> try simp only [yL] at hc)) | refine zA ?_ | refine zB ?_ | refine zF ?_)
    simp only [List.length_nil, Nat.add_zero] at hj
    subst hj
    exact hPost _
  | cons x rest =>
    obtain ⟨pos, o, hx, hI', hx'⟩ := hI.cons
    simp only [List.length_cons] at hj
    repeat' (first | refine zn ?_ | refine zK rfl ?_ | refine zP rfl ?_ | ((first | refine zm ?_ | skip); intro _; intros; simp (disch := first | exact zd | fail) only [↓yS, yT, gresults, gone, ↓reduceIte, Nat.reduceEqDiff, Nat.reduceAdd, Nat.reduceMul, reduceCtorEq, Int.reduceToNat, g68, f2, f4, hx]; first | (rename_i K k; (first | refine yC (k _ _ ?_) | refine zg (k _ ?_)); clear k K) | (rename_i A B C D a b c d; (first | refine zx (a ?_) | refine zy (b ?_) | refine zz (fun hc => c ?_) (fun hc => d ?_) | refine zv (b ?_) | refine zw (a ?_)) <;> clear a b c d A B C D <;> try simp only [yL] at hc)) | refine zA ?_ | refine zB ?_ | refine zF ?_)
    refine hJ _ _ ⟨rest.length, by simp, rest, p, j + 1, rfl, ?_⟩
    simp only [↓yG, Nat.reduceEqDiff, ↓reduceIte, Int.natCast_add, Int.cast_ofNat_Int, Int.natCast_zero, true_and, and_true, Option.some.injEq, Value.int.injEq, f4]
    exact ⟨hI', by omega, (But.refl (S := fun z => z = itId p) hw1 |>.put (i := itId p) rfl (hI.lt hw1) o).wf⟩
section
variable {s : ByteArray} (hs : s.size ≤ 4398046511104)
def lenN (s : ByteArray) : Int := if vldB s = true then ((rns s).length : Nat) else -1
omit hs in
theorem lenN_eq : lenN s = if vldB s = true then (((rns s).length : Nat) : Int) else -1 := rfl
include hs
theorem len_ok (H : GHeap) : gev G 65 [.string s] H = some (.int .i64 (lenN s), H) := by
  refine gev_GWP (f := 65) rfl rfl rfl (fun Post hPost => ?_) H
  rw [lenN_eq] at hPost
  simp only [frameOf, Nat.reduceAdd]
  repeat' (first | refine zn ?_ | refine zK rfl ?_ | refine zP rfl ?_ | ((first | refine zm ?_ | skip); intro _; intros; simp (disch := first | exact zd | fail) only [↓yS, yT, gresults, gone, ↓reduceIte, Nat.reduceEqDiff, Nat.reduceAdd, Nat.reduceMul, reduceCtorEq, Int.reduceToNat, g65]; first | (rename_i K k; (first | refine yC (k _ _ ?_) | refine zg (k _ ?_)); clear k K) | (rename_i A B C D a b c d; (first | refine zx (a ?_) | refine zy (b ?_) | refine zz (fun hc => c ?_) (fun hc => d ?_) | refine zv (b ?_) | refine zw (a ?_)) <;> clear a b c d A B C D <;> try simp only [yL] at hc)) | refine zA ?_ | refine zB ?_ | refine zF ?_)
  refine Gw_s fun K' hK' => G1_call (by simp only [gtarget, ↓GArg.ev, ↓evs, ↓Tr.get_set, Nat.reduceEqDiff, if_true, if_false, ↓reduceIte, Option.map_some]; rfl) (one_of (valid_ok (s := s) (by omega) _)) fun r1 H1 hq => hK' _ _ ?_
  obtain ⟨rfl, rfl⟩ := hq
  repeat' (first | refine zn ?_ | refine zK rfl ?_ | refine zP rfl ?_ | ((first | refine zm ?_ | skip); intro _; intros; simp (disch := first | exact zd | fail) only [↓yS, yT, gresults, gone, ↓reduceIte, Nat.reduceEqDiff, Nat.reduceAdd, Nat.reduceMul, reduceCtorEq, Int.reduceToNat, g65]; first | (rename_i K k; (first | refine yC (k _ _ ?_) | refine zg (k _ ?_)); clear k K) | (rename_i A B C D a b c d; (first | refine zx (a ?_) | refine zy (b ?_) | refine zz (fun hc => c ?_) (fun hc => d ?_) | refine zv (b ?_) | refine zw (a ?_)) <;> clear a b c d A B C D <;> try simp only [yL] at hc)) | refine zA ?_ | refine zB ?_ | refine zF ?_)
  case refine_1 => rw [if_neg (by rw [hc]; decide)] at hPost; exact hPost _
  case refine_2 =>
    refine Gw_s fun K' hK' => G1_call (by simp only [gtarget, ↓GArg.ev, ↓evs, ↓Tr.get_set, Nat.reduceEqDiff, if_true, if_false, ↓reduceIte, Option.map_some]; rfl) (one_of (count_ok (s := s) (by omega) _)) fun r1 H1 hq => hK' _ _ ?_
    obtain ⟨rfl, rfl⟩ := hq
    repeat' (first | refine zn ?_ | refine zK rfl ?_ | refine zP rfl ?_ | ((first | refine zm ?_ | skip); intro _; intros; simp (disch := first | exact zd | fail) only [↓yS, yT, gresults, gone, ↓reduceIte, Nat.reduceEqDiff, Nat.reduceAdd, Nat.reduceMul, reduceCtorEq, Int.reduceToNat, g65]; first | (rename_i K k; (first | refine yC (k _ _ ?_) | refine zg (k _ ?_)); clear k K) | (rename_i A B C D a b c d; (first | refine zx (a ?_) | refine zy (b ?_) | refine zz (fun hc => c ?_) (fun hc => d ?_) | refine zv (b ?_) | refine zw (a ?_)) <;> clear a b c d A B C D <;> try simp only [yL] at hc)) | refine zA ?_ | refine zB ?_ | refine zF ?_)
    rw [if_pos hc] at hPost; exact hPost _
omit hs
/-- the characters from i up to j -/
def cutL (l : List Nat) (i j : Int) : List Nat := (l.drop (min (max i 0) l.length).toNat).take ((min (max j (min (max i 0) l.length)) l.length).toNat - (min (max i 0) l.length).toNat)
omit hs in
theorem cutL_mem {l : List Nat} (h : ∀ x ∈ l, x ∈ REP) (i j : Int) : ∀ x ∈ cutL l i j, x ∈ REP := fun x hx => h x (List.mem_of_mem_drop (List.mem_of_mem_take hx))
omit hs in
theorem cut_arg {H0 H : GHeap} {v : Value} {l : List Nat} (hO : OS 1 1 H0 H v l.length (RL l)) (i j : Int) :
    ∃ v', gslice (.sl 1) H v (some (.int .i64 (min (max i 0) l.length))) (some (.int .i64 (min (max j (min (max i 0) l.length)) l.length))) none = some v' ∧ GRd H 1 v' (asI (cutL l i j)).length (ints .i32 (asI (cutL l i j))) := by
  have hA : GArg1 H 1 v l.length (RL l) := OwnG.arg hO.same.wf hO.own (.inr rfl)
  obtain ⟨v', e1, e2, _⟩ := hA.cut (k := .i64) (a := min (max i 0) l.length) (b := min (max j (min (max i 0) l.length)) l.length) (by omega) (by omega) (by omega)
  refine ⟨v', e1, ?_⟩
  have hn : (asI (cutL l i j)).length = (min (max j (min (max i 0) l.length)) l.length).toNat - (min (max i 0) l.length).toNat := by
    rw [asI_len, cutL, List.length_take, List.length_drop]; omega
  rw [hn]
  have : ints .i32 (asI (cutL l i j)) = ((RL l).drop ((min (max i 0) l.length).toNat * 1)).take (((min (max j (min (max i 0) l.length)) l.length).toNat - (min (max i 0) l.length).toNat) * 1) := by
    rw [← RL_ints, Nat.mul_one, Nat.mul_one]
    simp only [RL, cutL, List.map_take, List.map_drop]
  rw [this]
  exact e2.rd
omit hs in
theorem asI_range {l : List Nat} (h : ∀ x ∈ l, x ∈ REP) : ∀ n ∈ asI l, -2147483648 ≤ n ∧ n ≤ 2147483647 := by
  intro n hn
  simp only [asI, List.mem_map] at hn
  obtain ⟨x, hx, rfl⟩ := hn
  have := rep_le (h x hx)
  omega
def sliceB (s : ByteArray) (i j : Int) : List UInt8 := (cutL (charL s) i j).flatMap encL
include hs
end
end Go.Gh
