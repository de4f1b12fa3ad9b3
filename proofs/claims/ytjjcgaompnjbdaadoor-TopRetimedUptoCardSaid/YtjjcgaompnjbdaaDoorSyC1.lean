/-
  charset, walked (as in charset's texts): the functions of one character.
-/
import Derived.Test.YtjjcgaompnjbdaaDoorCsF
import Derived.Test.YtjjcgaompnjbdaaDoorSyG
namespace Go.Gh
set_option linter.unusedSimpArgs false
set_option linter.unusedVariables false
set_option maxHeartbeats 4000000
open Go.RowKit
set_option maxRecDepth 4000

theorem root_wf : (⟨.nil, 0, 0⟩ : GHeap).wf := ⟨Nat.le_refl _, fun i => by simp [GHeap.obj, Tr.get_nil]⟩
theorem fndI_next {x : Nat} {l : List Nat} {r : Int} (h : ¬ (x : Int) = r) : fnd (x :: l) r = (fnd l r).map (· + 1) := by simp only [fnd, if_neg h]
/-- what is still to be said when n were looked at -/
def fndR (n : Nat) (l : List Nat) (r : Int) : Int := match fnd l r with
  | some m => (n + m : Nat)
  | none => -1
theorem fndR_zero (l : List Nat) (r : Int) : fndR 0 l r = fndI l r := by unfold fndR fndI; cases fnd l r <;> simp
theorem fndR_yes {x : Nat} {l : List Nat} {r : Int} (n : Nat) (h : (x : Int) = r) : fndR n (x :: l) r = n := by simp [fndR, fnd, h]
theorem fndR_no {x : Nat} {l : List Nat} {r : Int} (n : Nat) (h : ¬ (x : Int) = r) : fndR n (x :: l) r = fndR (n + 1) l r := by
  simp only [fndR, fndI_next h]
  cases fnd l r with
  | none => rfl
  | some m => simp only [Option.map_some]; congr 1; omega
theorem place_ok {s : ByteArray} (hs : s.size ≤ 4611686018427387904) {r : Int} (H : GHeap) : gev G 59 [.string s, .int .i32 r] H = some (.int .i64 (fndI (rns s) r), H) := by
  refine gev_GWP (f := 59) rfl rfl rfl (fun Post hPost => ?_) H
  have hw := root_wf
  simp only [frameOf, Nat.reduceAdd]
  repeat' (first | refine zn ?_ | refine zK rfl ?_ | refine zP rfl ?_ | ((first | refine zm ?_ | skip); intro _; intros; simp (disch := first | exact zd | fail) only [↓yS, yT, gresults, gone, ↓reduceIte, Nat.reduceEqDiff, Nat.reduceAdd, Nat.reduceMul, reduceCtorEq, Int.reduceToNat, g59]; first | (rename_i K k; (first | refine yC (k _ _ ?_) | refine zg (k _ ?_)); clear k K) | (rename_i A B C D a b c d; (first | refine zx (a ?_) | refine zy (b ?_) | refine zz (fun hc => c ?_) (fun hc => d ?_) | refine zv (b ?_) | refine zw (a ?_)) <;> clear a b c d A B C D <;> try simp only [yL] at hc)) | refine zA ?_ | refine zB ?_ | refine zF ?_)
  have hlen := rns_len s
  refine GW_loop (fun k fr H1 => ∃ (n : Nat) (l : List Nat) (p : Value), k = l.length ∧ fr.get 1 = some (.int .i32 r) ∧ fr.get 5 = some (.int .i64 n) ∧ fr.get 9 = some (p) ∧ ItAt H1 p l ∧ fndR n l r = fndI (rns s) r ∧ n + l.length ≤ s.size) ?_ (rns s).length ?_
  case refine_2 =>
    refine ⟨0, rns s, .pointer (some ⟨0, 0, none⟩), rfl, ?_⟩
    simp only [↓yG, Nat.reduceEqDiff, ↓reduceIte, Int.natCast_add, Int.cast_ofNat_Int, Int.natCast_zero, true_and, and_true, Option.some.injEq, Value.int.injEq]
    exact ⟨ItAt.new (H := ⟨.nil, 0, 0⟩) (Nat.le_refl _), fndR_zero _ _, by omega⟩
  rintro k fr H1 ⟨n, l, p, rfl, f1, f5, f9, hI, hf, hn⟩ J hJ
  cases l with
  | nil =>
    have hx := hI.nil
    repeat' (first | refine zn ?_ | refine zK rfl ?_ | refine zP rfl ?_ | ((first | refine zm ?_ | skip); intro _; intros; simp (disch := first | exact zd | fail) only [↓yS, yT, gresults, gone, ↓reduceIte, Nat.reduceEqDiff, Nat.reduceAdd, Nat.reduceMul, reduceCtorEq, Int.reduceToNat, g59, f1, f5, f9, hx]; first | (rename_i K k; (first | refine yC (k _ _ ?_) | refine zg (k _ ?_)); clear k K) | (rename_i A B C D a b c d; (first | refine zx (a ?_) | refine zy (b ?_) | refine zz (fun hc => c ?_) (fun hc => d ?_) | refine zv (b ?_) | refine zw (a ?_)) <;> clear a b c d A B C D <;> try simp only [yL] at hc)) | refine zA ?_ | refine zB ?_ | refine zF ?_)
    have he : fndI (rns s) r = -1 := hf.symm
    rw [he] at hPost
    exact hPost _
  | cons x l =>
    obtain ⟨pos, o, hx, hI', hx'⟩ := hI.cons
    simp only [List.length_cons] at hn
    repeat' (first | refine zn ?_ | refine zK rfl ?_ | refine zP rfl ?_ | ((first | refine zm ?_ | skip); intro _; intros; simp (disch := first | exact zd | fail) only [↓yS, yT, gresults, gone, ↓reduceIte, Nat.reduceEqDiff, Nat.reduceAdd, Nat.reduceMul, reduceCtorEq, Int.reduceToNat, g59, f1, f5, f9, hx]; first | (rename_i K k; (first | refine yC (k _ _ ?_) | refine zg (k _ ?_)); clear k K) | (rename_i A B C D a b c d; (first | refine zx (a ?_) | refine zy (b ?_) | refine zz (fun hc => c ?_) (fun hc => d ?_) | refine zv (b ?_) | refine zw (a ?_)) <;> clear a b c d A B C D <;> try simp only [yL] at hc)) | refine zA ?_ | refine zB ?_ | refine zF ?_)
    case cons.refine_1 =>
      rw [fndR_yes n hc] at hf
      rw [← hf] at hPost
      exact hPost _
    case cons.refine_2 =>
      refine hJ _ _ ⟨l.length, by simp, n + 1, l, p, rfl, ?_⟩
      simp only [↓yG, Nat.reduceEqDiff, ↓reduceIte, Int.natCast_add, Int.cast_ofNat_Int, Int.natCast_zero, true_and, and_true, Option.some.injEq, Value.int.injEq, f1, f9]
      exact ⟨hI', by rw [← fndR_no n hc]; exact hf, by omega⟩
theorem allS_le : allS.size ≤ 4611686018427387904 := by decide
theorem idx_ok {r : Int} (hr : -2147483648 ≤ r ∧ r ≤ 2147483647) (H : GHeap) : gev G 42 [.int .i32 r] H = some (.int .i64 (idxN r), H) := by
  refine gev_GWP (f := 42) rfl rfl rfl (fun Post hPost => ?_) H
  simp only [frameOf, Nat.reduceAdd]
  unfold idxN at hPost
  repeat' (first | refine zn ?_ | refine zK rfl ?_ | refine zP rfl ?_ | ((first | refine zm ?_ | skip); intro _; intros; simp (disch := first | exact zd | fail) only [↓yS, yT, gresults, gone, ↓reduceIte, Nat.reduceEqDiff, Nat.reduceAdd, Nat.reduceMul, reduceCtorEq, Int.reduceToNat, g42]; first | (rename_i K k; (first | refine yC (k _ _ ?_) | refine zg (k _ ?_)); clear k K) | (rename_i A B C D a b c d; (first | refine zx (a ?_) | refine zy (b ?_) | refine zz (fun hc => c ?_) (fun hc => d ?_) | refine zv (b ?_) | refine zw (a ?_)) <;> clear a b c d A B C D <;> try simp only [yL] at hc)) | refine zA ?_ | refine zB ?_ | refine zF ?_)
  case refine_1.refine_1 => rw [if_pos ⟨by omega, by omega⟩] at hPost; exact hPost _
  all_goals
    rw [if_neg (by omega), ← rns_all] at hPost
    refine Gw_s fun K' hK' => G1_call (by simp only [gtarget, ↓GArg.ev, ↓evs, ↓Tr.get_set, Nat.reduceEqDiff, if_true, if_false, ↓reduceIte, Option.map_some]; rfl) (one_of (place_ok (s := allS) allS_le _)) fun r1 H1 hq => hK' _ _ ?_
    obtain ⟨rfl, rfl⟩ := hq
    repeat' (first | refine zn ?_ | refine zK rfl ?_ | refine zP rfl ?_ | ((first | refine zm ?_ | skip); intro _; intros; simp (disch := first | exact zd | fail) only [↓yS, yT, gresults, gone, ↓reduceIte, Nat.reduceEqDiff, Nat.reduceAdd, Nat.reduceMul, reduceCtorEq, Int.reduceToNat, g42]; first | (rename_i K k; (first | refine yC (k _ _ ?_) | refine zg (k _ ?_)); clear k K) | (rename_i A B C D a b c d; (first | refine zx (a ?_) | refine zy (b ?_) | refine zz (fun hc => c ?_) (fun hc => d ?_) | refine zv (b ?_) | refine zw (a ?_)) <;> clear a b c d A B C D <;> try simp only [yL] at hc)) | refine zA ?_ | refine zB ?_ | refine zF ?_)
    exact hPost _
set_option maxRecDepth 100000
theorem rep_range : (REP.all fun x => decide (32 ≤ x ∧ x ≤ 9834)) = true := by kernel_rfl
set_option maxRecDepth 4000
theorem idx_range (r : Int) : idxN r < 0 ∨ (32 ≤ r ∧ r ≤ 9834) := by
  by_cases h : idxN r < 0
  · exact .inl h
  · obtain ⟨x, hx, rfl⟩ := idx_mem h
    have := List.all_eq_true.1 rep_range x hx
    simp only [decide_eq_true_eq] at this
    right; omega
theorem OS.made' {s u n : Nat} {H0 H : GHeap} {cs : List Value} (hs : Same H0 H) (h : cs.length = n * s) : OS s u H0 (H.add (some (.cells cs u true))) (.slice (some ⟨H.len, 0, none⟩) n (n + 1)) n cs :=
  ⟨hs.add _, ⟨h, .inr ⟨H.len, n + 1, rfl, .inr rfl, mine_add_eq rfl hs.wf.1⟩⟩, .inr hs.len⟩
theorem drop_bang {l : List Nat} {n : Nat} (h : n < l.length) : l.drop n = l[n]! :: l.drop (n + 1) := by rw [List.drop_eq_getElem_cons h, getElem!_pos l n h]
end Go.Gh
