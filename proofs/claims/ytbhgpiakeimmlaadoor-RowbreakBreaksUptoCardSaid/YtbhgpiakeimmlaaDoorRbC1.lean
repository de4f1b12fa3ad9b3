/-
  charset, walked (as in style's texts): characters, runes.
-/
import Derived.Test.YtbhgpiakeimmlaaDoorCsF
import Derived.Test.YtbhgpiakeimmlaaDoorRbG
namespace Go.Gh
set_option linter.unusedSimpArgs false
set_option linter.unusedVariables false
open Go.RowKit
set_option maxRecDepth 4000
theorem root_wf : (⟨.nil, 0, 0⟩ : GHeap).wf := ⟨Nat.le_refl _, fun i => by simp [GHeap.obj, Tr.get_nil]⟩
theorem fndI_next {x : Nat} {l : List Nat} {r : Int} (h : ¬ (x : Int) = r) : fnd (x :: l) r = (fnd l r).map (· + 1) := by simp only [fnd, if_neg h]
/-- what is still to be said when n were looked at -/
def fndR (n : Nat) (l : List Nat) (r : Int) : Int := match fnd l r with
  | some m => (n + m : Nat)
  | none => -1
theorem fndR_zero (l : List Nat) (r : Int) : fndR 0 l r = fndI l r := by unfold fndR fndI; cases fnd l r <;> simp
theorem fndR_yes {x : Nat} {l : List Nat} {r : Int} (n : Nat) (h : (x : Int) = r) : fndR n (x :: l) r = n := by simp [fndR, fnd, h]
theorem fndR_no {x : Nat} {l : List Nat} {r : Int} (n : Nat) (h : ¬ (x : Int) = r) : fndR n (x :: l) r = fndR (n + 1) l r := by
  simp only [fndR, fndI_next h]
  cases fnd l r with
  | none => rfl
  | some m => simp only [Option.map_some]; congr 1; omega
theorem place_ok {s : ByteArray} (hs : s.size ≤ 4611686018427387904) {r : Int} (H : GHeap) : gev G 74 [.string s, .int .i32 r] H = some (.int .i64 (fndI (rns s) r), H) := by
  refine gev_GWP (f := 74) rfl rfl rfl (fun Post hPost => ?_) H
  have hw := root_wf
  simp only [frameOf, Nat.reduceAdd]
  repeat' (first | refine zA ?_ | refine zB ?_ | refine zC ?_ | refine zD ?_ | refine zE ?_ | refine zF ?_ | refine zG ?_ | refine zH ?_ | refine zI ?_ | refine zJ ?_ | refine zK rfl ?_ | refine zL ?_ | refine zM ?_ | refine zN ?_ | refine zO ?_ | refine zP rfl ?_ | refine zQ ?_ | ((first | refine zR ?_ | refine zS ?_ | refine zT ?_ | skip); intro K k; simp (disch := (first | (simp only [yD2, beq_self_eq_true, Nat.reduceLT, Nat.reduceAdd]; done) | ((fail_if_success (apply Bool.eq_iff_iff.2)); first | omega | (simp only [yD2, beq_self_eq_true, Nat.reduceLT, Nat.reduceAdd] <;> omega)) | fail)) only [↓yS, yT, ↓reduceIte, Nat.reduceEqDiff, Nat.reduceAdd, Nat.reduceMul, reduceCtorEq, Int.reduceToNat, g74]; refine yC (k _ _ ?_); clear k K) | ((first | refine zU ?_ | refine zV ?_ | refine zW ?_); intro A B C D a b c d; simp only [↓yG, Nat.reduceEqDiff, ↓reduceIte, g74]; (first | refine zX (a ?_) | refine zY (b ?_) | refine zZ (fun hc => c ?_) (fun hc => d ?_)) <;> clear a b c d A B C D <;> try simp only [yL] at hc) | (refine yA ?_; intro A a; simp only [↓yG, Nat.reduceEqDiff, ↓reduceIte, g74]; refine yB (a ?_); clear a A) | (refine yD ?_; simp only [gresults, ↓yG, Nat.reduceEqDiff, ↓reduceIte, Option.bind_some, gld_1, gld_n, g74]; refine ⟨_, rfl, ?_⟩; simp only [gone]))
  have hlen := rns_len s
  refine GW_loop (fun k fr H1 => ∃ (n : Nat) (l : List Nat) (p : Value), k = l.length ∧ fr.get 1 = some (.int .i32 r) ∧ fr.get 5 = some (.int .i64 n) ∧ fr.get 9 = some (p) ∧ ItAt H1 p l ∧ fndR n l r = fndI (rns s) r ∧ n + l.length ≤ s.size) ?_ (rns s).length ?_
  case refine_2 =>
    refine ⟨0, rns s, .pointer (some ⟨0, 0, none⟩), rfl, ?_⟩
    simp only [↓yG, Nat.reduceEqDiff, ↓reduceIte, Int.natCast_add, Int.cast_ofNat_Int, Int.natCast_zero, true_and, and_true, Option.some.injEq, Value.int.injEq]
    exact ⟨ItAt.new (H := ⟨.nil, 0, 0⟩) (Nat.le_refl _), fndR_zero _ _, by omega⟩
  rintro k fr H1 ⟨n, l, p, rfl, f1, f5, f9, hI, hf, hn⟩ J hJ
  cases l with
  | nil =>
    have hx := hI.nil
    repeat' (first | refine zA ?_ | refine zB ?_ | refine zC ?_ | refine zD ?_ | refine zE ?_ | refine zF ?_ | refine zG ?_ | refine zH ?_ | refine zI ?_ | refine zJ ?_ | refine zK rfl ?_ | refine zL ?_ | refine zM ?_ | refine zN ?_ | refine zO ?_ | refine zP rfl ?_ | refine zQ ?_ | ((first | refine zR ?_ | refine zS ?_ | refine zT ?_ | skip); intro K k; simp (disch := (first | (simp only [yD2, beq_self_eq_true, Nat.reduceLT, Nat.reduceAdd]; done) | ((fail_if_success (apply Bool.eq_iff_iff.2)); first | omega | (simp only [yD2, beq_self_eq_true, Nat.reduceLT, Nat.reduceAdd] <;> omega)) | fail)) only [↓yS, yT, ↓reduceIte, Nat.reduceEqDiff, Nat.reduceAdd, Nat.reduceMul, reduceCtorEq, Int.reduceToNat, g74, f1, f5, f9, hx]; refine yC (k _ _ ?_); clear k K) | ((first | refine zU ?_ | refine zV ?_ | refine zW ?_); intro A B C D a b c d; simp only [↓yG, Nat.reduceEqDiff, ↓reduceIte, g74, f1, f5, f9, hx]; (first | refine zX (a ?_) | refine zY (b ?_) | refine zZ (fun hc => c ?_) (fun hc => d ?_)) <;> clear a b c d A B C D <;> try simp only [yL] at hc) | (refine yA ?_; intro A a; simp only [↓yG, Nat.reduceEqDiff, ↓reduceIte, g74, f1, f5, f9, hx]; refine yB (a ?_); clear a A) | (refine yD ?_; simp only [gresults, ↓yG, Nat.reduceEqDiff, ↓reduceIte, Option.bind_some, gld_1, gld_n, g74, f1, f5, f9, hx]; refine ⟨_, rfl, ?_⟩; simp only [gone]))
    have he : fndI (rns s) r = -1 := hf.symm
    rw [he] at hPost
    exact hPost _
  | cons x l =>
    obtain ⟨pos, o, hx, hI', hx'⟩ := hI.cons
    simp only [List.length_cons] at hn
    repeat' (first | refine zA ?_ | refine zB ?_ | refine zC ?_ | refine zD ?_ | refine zE ?_ | refine zF ?_ | refine zG ?_ | refine zH ?_ | refine zI ?_ | refine zJ ?_ | refine zK rfl ?_ | refine zL ?_ | refine zM ?_ | refine zN ?_ | refine zO ?_ | refine zP rfl ?_ | refine zQ ?_ | ((first | refine zR ?_ | refine zS ?_ | refine zT ?_ | skip); intro K k; simp (disch := (first | (simp only [yD2, beq_self_eq_true, Nat.reduceLT, Nat.reduceAdd]; done) | ((fail_if_success (apply Bool.eq_iff_iff.2)); first | omega | (simp only [yD2, beq_self_eq_true, Nat.reduceLT, Nat.reduceAdd] <;> omega)) | fail)) only [↓yS, yT, ↓reduceIte, Nat.reduceEqDiff, Nat.reduceAdd, Nat.reduceMul, reduceCtorEq, Int.reduceToNat, g74, f1, f5, f9, hx]; refine yC (k _ _ ?_); clear k K) | ((first | refine zU ?_ | refine zV ?_ | refine zW ?_); intro A B C D a b c d; simp only [↓yG, Nat.reduceEqDiff, ↓reduceIte, g74, f1, f5, f9, hx]; (first | refine zX (a ?_) | refine zY (b ?_) | refine zZ (fun hc => c ?_) (fun hc => d ?_)) <;> clear a b c d A B C D <;> try simp only [yL] at hc) | (refine yA ?_; intro A a; simp only [↓yG, Nat.reduceEqDiff, ↓reduceIte, g74, f1, f5, f9, hx]; refine yB (a ?_); clear a A) | (refine yD ?_; simp only [gresults, ↓yG, Nat.reduceEqDiff, ↓reduceIte, Option.bind_some, gld_1, gld_n, g74, f1, f5, f9, hx]; refine ⟨_, rfl, ?_⟩; simp only [gone]))
    case cons.refine_1 =>
      rw [fndR_yes n hc] at hf
      rw [← hf] at hPost
      exact hPost _
    case cons.refine_2 =>
      refine hJ _ _ ⟨l.length, by simp, n + 1, l, p, rfl, ?_⟩
      simp only [↓yG, Nat.reduceEqDiff, ↓reduceIte, Int.natCast_add, Int.cast_ofNat_Int, Int.natCast_zero, true_and, and_true, Option.some.injEq, Value.int.injEq, f1, f9]
      exact ⟨hI', by rw [← fndR_no n hc]; exact hf, by omega⟩
theorem allS_le : allS.size ≤ 4611686018427387904 := by decide
theorem rrep_ok (H : GHeap) : gev G 75 [] H = some (.string allS, H) := by
  refine gev_GWP (f := 75) rfl rfl rfl (fun Post hPost => ?_) H
  simp only [frameOf, Nat.reduceAdd]
  repeat' (first | refine zA ?_ | refine zB ?_ | refine zC ?_ | refine zD ?_ | refine zE ?_ | refine zF ?_ | refine zG ?_ | refine zH ?_ | refine zI ?_ | refine zJ ?_ | refine zK rfl ?_ | refine zL ?_ | refine zM ?_ | refine zN ?_ | refine zO ?_ | refine zP rfl ?_ | refine zQ ?_ | ((first | refine zR ?_ | refine zS ?_ | refine zT ?_ | skip); intro K k; simp (disch := (first | (simp only [yD2, beq_self_eq_true, Nat.reduceLT, Nat.reduceAdd]; done) | ((fail_if_success (apply Bool.eq_iff_iff.2)); first | omega | (simp only [yD2, beq_self_eq_true, Nat.reduceLT, Nat.reduceAdd] <;> omega)) | fail)) only [↓yS, yT, ↓reduceIte, Nat.reduceEqDiff, Nat.reduceAdd, Nat.reduceMul, reduceCtorEq, Int.reduceToNat, g75]; refine yC (k _ _ ?_); clear k K) | ((first | refine zU ?_ | refine zV ?_ | refine zW ?_); intro A B C D a b c d; simp only [↓yG, Nat.reduceEqDiff, ↓reduceIte, g75]; (first | refine zX (a ?_) | refine zY (b ?_) | refine zZ (fun hc => c ?_) (fun hc => d ?_)) <;> clear a b c d A B C D <;> try simp only [yL] at hc) | (refine yA ?_; intro A a; simp only [↓yG, Nat.reduceEqDiff, ↓reduceIte, g75]; refine yB (a ?_); clear a A) | (refine yD ?_; simp only [gresults, ↓yG, Nat.reduceEqDiff, ↓reduceIte, Option.bind_some, gld_1, gld_n, g75]; refine ⟨_, rfl, ?_⟩; simp only [gone]))
  exact hPost _
theorem idx_ok {r : Int} (hr : -2147483648 ≤ r ∧ r ≤ 2147483647) (H : GHeap) : gev G 66 [.int .i32 r] H = some (.int .i64 (idxN r), H) := by
  refine gev_GWP (f := 66) rfl rfl rfl (fun Post hPost => ?_) H
  simp only [frameOf, Nat.reduceAdd]
  unfold idxN at hPost
  repeat' (first | refine zA ?_ | refine zB ?_ | refine zC ?_ | refine zD ?_ | refine zE ?_ | refine zF ?_ | refine zG ?_ | refine zH ?_ | refine zI ?_ | refine zJ ?_ | refine zK rfl ?_ | refine zL ?_ | refine zM ?_ | refine zN ?_ | refine zO ?_ | refine zP rfl ?_ | refine zQ ?_ | ((first | refine zR ?_ | refine zS ?_ | refine zT ?_ | skip); intro K k; simp (disch := (first | (simp only [yD2, beq_self_eq_true, Nat.reduceLT, Nat.reduceAdd]; done) | ((fail_if_success (apply Bool.eq_iff_iff.2)); first | omega | (simp only [yD2, beq_self_eq_true, Nat.reduceLT, Nat.reduceAdd] <;> omega)) | fail)) only [↓yS, yT, ↓reduceIte, Nat.reduceEqDiff, Nat.reduceAdd, Nat.reduceMul, reduceCtorEq, Int.reduceToNat, g66]; refine yC (k _ _ ?_); clear k K) | ((first | refine zU ?_ | refine zV ?_ | refine zW ?_); intro A B C D a b c d; simp only [↓yG, Nat.reduceEqDiff, ↓reduceIte, g66]; (first | refine zX (a ?_) | refine zY (b ?_) | refine zZ (fun hc => c ?_) (fun hc => d ?_)) <;> clear a b c d A B C D <;> try simp only [yL] at hc) | (refine yA ?_; intro A a; simp only [↓yG, Nat.reduceEqDiff, ↓reduceIte, g66]; refine yB (a ?_); clear a A) | (refine yD ?_; simp only [gresults, ↓yG, Nat.reduceEqDiff, ↓reduceIte, Option.bind_some, gld_1, gld_n, g66]; refine ⟨_, rfl, ?_⟩; simp only [gone]))
  case refine_1.refine_1 => rw [if_pos ⟨by omega, by omega⟩] at hPost; exact hPost _
  all_goals
    rw [if_neg (by omega), ← rns_all] at hPost
    refine Gw_s fun K' hK' => G1_call (by simp only [gtarget, ↓GArg.ev, ↓evs, ↓Tr.get_set, Nat.reduceEqDiff, if_true, if_false, ↓reduceIte, Option.map_some]; rfl) (one_of (place_ok (s := allS) allS_le _)) fun r1 H1 hq => hK' _ _ ?_
    obtain ⟨rfl, rfl⟩ := hq
    repeat' (first | refine zA ?_ | refine zB ?_ | refine zC ?_ | refine zD ?_ | refine zE ?_ | refine zF ?_ | refine zG ?_ | refine zH ?_ | refine zI ?_ | refine zJ ?_ | refine zK rfl ?_ | refine zL ?_ | refine zM ?_ | refine zN ?_ | refine zO ?_ | refine zP rfl ?_ | refine zQ ?_ | ((first | refine zR ?_ | refine zS ?_ | refine zT ?_ | skip); intro K k; simp (disch := (first | (simp only [yD2, beq_self_eq_true, Nat.reduceLT, Nat.reduceAdd]; done) | ((fail_if_success (apply Bool.eq_iff_iff.2)); first | omega | (simp only [yD2, beq_self_eq_true, Nat.reduceLT, Nat.reduceAdd] <;> omega)) | fail)) only [↓yS, yT, ↓reduceIte, Nat.reduceEqDiff, Nat.reduceAdd, Nat.reduceMul, reduceCtorEq, Int.reduceToNat, g66]; refine yC (k _ _ ?_); clear k K) | ((first | refine zU ?_ | refine zV ?_ | refine zW ?_); intro A B C D a b c d; simp only [↓yG, Nat.reduceEqDiff, ↓reduceIte, g66]; (first | refine zX (a ?_) | refine zY (b ?_) | refine zZ (fun hc => c ?_) (fun hc => d ?_)) <;> clear a b c d A B C D <;> try simp only [yL] at hc) | (refine yA ?_; intro A a; simp only [↓yG, Nat.reduceEqDiff, ↓reduceIte, g66]; refine yB (a ?_); clear a A) | (refine yD ?_; simp only [gresults, ↓yG, Nat.reduceEqDiff, ↓reduceIte, Option.bind_some, gld_1, gld_n, g66]; refine ⟨_, rfl, ?_⟩; simp only [gone]))
    exact hPost _
theorem ridx_ok {r : Int} (hr : -2147483648 ≤ r ∧ r ≤ 2147483647) (H : GHeap) : gev G 67 [.int .i32 r] H = some (.int .i64 (idxN r), H) := by
  refine gev_GWP (f := 67) rfl rfl rfl (fun Post hPost => ?_) H
  simp only [frameOf, Nat.reduceAdd]
  unfold idxN at hPost
  repeat' (first | refine zA ?_ | refine zB ?_ | refine zC ?_ | refine zD ?_ | refine zE ?_ | refine zF ?_ | refine zG ?_ | refine zH ?_ | refine zI ?_ | refine zJ ?_ | refine zK rfl ?_ | refine zL ?_ | refine zM ?_ | refine zN ?_ | refine zO ?_ | refine zP rfl ?_ | refine zQ ?_ | ((first | refine zR ?_ | refine zS ?_ | refine zT ?_ | skip); intro K k; simp (disch := (first | (simp only [yD2, beq_self_eq_true, Nat.reduceLT, Nat.reduceAdd]; done) | ((fail_if_success (apply Bool.eq_iff_iff.2)); first | omega | (simp only [yD2, beq_self_eq_true, Nat.reduceLT, Nat.reduceAdd] <;> omega)) | fail)) only [↓yS, yT, ↓reduceIte, Nat.reduceEqDiff, Nat.reduceAdd, Nat.reduceMul, reduceCtorEq, Int.reduceToNat, g67]; refine yC (k _ _ ?_); clear k K) | ((first | refine zU ?_ | refine zV ?_ | refine zW ?_); intro A B C D a b c d; simp only [↓yG, Nat.reduceEqDiff, ↓reduceIte, g67]; (first | refine zX (a ?_) | refine zY (b ?_) | refine zZ (fun hc => c ?_) (fun hc => d ?_)) <;> clear a b c d A B C D <;> try simp only [yL] at hc) | (refine yA ?_; intro A a; simp only [↓yG, Nat.reduceEqDiff, ↓reduceIte, g67]; refine yB (a ?_); clear a A) | (refine yD ?_; simp only [gresults, ↓yG, Nat.reduceEqDiff, ↓reduceIte, Option.bind_some, gld_1, gld_n, g67]; refine ⟨_, rfl, ?_⟩; simp only [gone]))
  case refine_1.refine_1 => rw [if_pos ⟨by omega, by omega⟩] at hPost; exact hPost _
  all_goals
    rw [if_neg (by omega)] at hPost
    refine Gw_s fun K' hK' => G1_call (by simp only [gtarget, ↓GArg.ev, ↓evs, ↓Tr.get_set, Nat.reduceEqDiff, if_true, if_false, ↓reduceIte, Option.map_some]; rfl) (one_of (rrep_ok _)) fun r1 H1 hq => hK' _ _ ?_
    obtain ⟨rfl, rfl⟩ := hq
    repeat' (first | refine zA ?_ | refine zB ?_ | refine zC ?_ | refine zD ?_ | refine zE ?_ | refine zF ?_ | refine zG ?_ | refine zH ?_ | refine zI ?_ | refine zJ ?_ | refine zK rfl ?_ | refine zL ?_ | refine zM ?_ | refine zN ?_ | refine zO ?_ | refine zP rfl ?_ | refine zQ ?_ | ((first | refine zR ?_ | refine zS ?_ | refine zT ?_ | skip); intro K k; simp (disch := (first | (simp only [yD2, beq_self_eq_true, Nat.reduceLT, Nat.reduceAdd]; done) | ((fail_if_success (apply Bool.eq_iff_iff.2)); first | omega | (simp only [yD2, beq_self_eq_true, Nat.reduceLT, Nat.reduceAdd] <;> omega)) | fail)) only [↓yS, yT, ↓reduceIte, Nat.reduceEqDiff, Nat.reduceAdd, Nat.reduceMul, reduceCtorEq, Int.reduceToNat, g67]; refine yC (k _ _ ?_); clear k K) | ((first | refine zU ?_ | refine zV ?_ | refine zW ?_); intro A B C D a b c d; simp only [↓yG, Nat.reduceEqDiff, ↓reduceIte, g67]; (first | refine zX (a ?_) | refine zY (b ?_) | refine zZ (fun hc => c ?_) (fun hc => d ?_)) <;> clear a b c d A B C D <;> try simp only [yL] at hc) | (refine yA ?_; intro A a; simp only [↓yG, Nat.reduceEqDiff, ↓reduceIte, g67]; refine yB (a ?_); clear a A) | (refine yD ?_; simp only [gresults, ↓yG, Nat.reduceEqDiff, ↓reduceIte, Option.bind_some, gld_1, gld_n, g67]; refine ⟨_, rfl, ?_⟩; simp only [gone]))
    refine GW_loop (fun k fr H1 => ∃ (n : Nat) (l : List Nat) (p : Value), k = l.length ∧ fr.get 0 = some (.int .i32 r) ∧ fr.get 3 = some (.int .i64 n) ∧ fr.get 16 = some (p) ∧ ItAt H1 p l ∧ fndR n l r = fndI REP r ∧ n + l.length ≤ 176) ?_ 176 ?_
  case refine_1.refine_2.refine_2 =>
    refine ⟨0, REP, .pointer (some ⟨0, 0, none⟩), rfl, ?_⟩
    simp only [↓yG, Nat.reduceEqDiff, ↓reduceIte, Int.natCast_add, Int.cast_ofNat_Int, Int.natCast_zero, true_and, and_true, Option.some.injEq, Value.int.injEq]
    exact ⟨rns_all ▸ ItAt.new (H := ⟨.nil, 0, 0⟩) (s := allS) (Nat.le_refl _), fndR_zero _ _, by decide⟩
  case refine_2.refine_2 =>
    refine ⟨0, REP, .pointer (some ⟨0, 0, none⟩), rfl, ?_⟩
    simp only [↓yG, Nat.reduceEqDiff, ↓reduceIte, Int.natCast_add, Int.cast_ofNat_Int, Int.natCast_zero, true_and, and_true, Option.some.injEq, Value.int.injEq]
    exact ⟨rns_all ▸ ItAt.new (H := ⟨.nil, 0, 0⟩) (s := allS) (Nat.le_refl _), fndR_zero _ _, by decide⟩
  all_goals
    rintro k fr H1 ⟨n, l, p, rfl, f0, f3, f16, hI, hf, hn⟩ J hJ
    cases l with
    | nil =>
      have hx := hI.nil
      repeat' (first | refine zA ?_ | refine zB ?_ | refine zC ?_ | refine zD ?_ | refine zE ?_ | refine zF ?_ | refine zG ?_ | refine zH ?_ | refine zI ?_ | refine zJ ?_ | refine zK rfl ?_ | refine zL ?_ | refine zM ?_ | refine zN ?_ | refine zO ?_ | refine zP rfl ?_ | refine zQ ?_ | ((first | refine zR ?_ | refine zS ?_ | refine zT ?_ | skip); intro K k; simp (disch := (first | (simp only [yD2, beq_self_eq_true, Nat.reduceLT, Nat.reduceAdd]; done) | ((fail_if_success (apply Bool.eq_iff_iff.2)); first | omega | (simp only [yD2, beq_self_eq_true, Nat.reduceLT, Nat.reduceAdd] <;> omega)) | fail)) only [↓yS, yT, ↓reduceIte, Nat.reduceEqDiff, Nat.reduceAdd, Nat.reduceMul, reduceCtorEq, Int.reduceToNat, g67, f0, f3, f16, hx]; refine yC (k _ _ ?_); clear k K) | ((first | refine zU ?_ | refine zV ?_ | refine zW ?_); intro A B C D a b c d; simp only [↓yG, Nat.reduceEqDiff, ↓reduceIte, g67, f0, f3, f16, hx]; (first | refine zX (a ?_) | refine zY (b ?_) | refine zZ (fun hc => c ?_) (fun hc => d ?_)) <;> clear a b c d A B C D <;> try simp only [yL] at hc) | (refine yA ?_; intro A a; simp only [↓yG, Nat.reduceEqDiff, ↓reduceIte, g67, f0, f3, f16, hx]; refine yB (a ?_); clear a A) | (refine yD ?_; simp only [gresults, ↓yG, Nat.reduceEqDiff, ↓reduceIte, Option.bind_some, gld_1, gld_n, g67, f0, f3, f16, hx]; refine ⟨_, rfl, ?_⟩; simp only [gone]))
      have he : fndI REP r = -1 := hf.symm
      rw [he] at hPost
      exact hPost _
    | cons x l =>
      obtain ⟨pos, o, hx, hI', hx'⟩ := hI.cons
      simp only [List.length_cons] at hn
      repeat' (first | refine zA ?_ | refine zB ?_ | refine zC ?_ | refine zD ?_ | refine zE ?_ | refine zF ?_ | refine zG ?_ | refine zH ?_ | refine zI ?_ | refine zJ ?_ | refine zK rfl ?_ | refine zL ?_ | refine zM ?_ | refine zN ?_ | refine zO ?_ | refine zP rfl ?_ | refine zQ ?_ | ((first | refine zR ?_ | refine zS ?_ | refine zT ?_ | skip); intro K k; simp (disch := (first | (simp only [yD2, beq_self_eq_true, Nat.reduceLT, Nat.reduceAdd]; done) | ((fail_if_success (apply Bool.eq_iff_iff.2)); first | omega | (simp only [yD2, beq_self_eq_true, Nat.reduceLT, Nat.reduceAdd] <;> omega)) | fail)) only [↓yS, yT, ↓reduceIte, Nat.reduceEqDiff, Nat.reduceAdd, Nat.reduceMul, reduceCtorEq, Int.reduceToNat, g67, f0, f3, f16, hx]; refine yC (k _ _ ?_); clear k K) | ((first | refine zU ?_ | refine zV ?_ | refine zW ?_); intro A B C D a b c d; simp only [↓yG, Nat.reduceEqDiff, ↓reduceIte, g67, f0, f3, f16, hx]; (first | refine zX (a ?_) | refine zY (b ?_) | refine zZ (fun hc => c ?_) (fun hc => d ?_)) <;> clear a b c d A B C D <;> try simp only [yL] at hc) | (refine yA ?_; intro A a; simp only [↓yG, Nat.reduceEqDiff, ↓reduceIte, g67, f0, f3, f16, hx]; refine yB (a ?_); clear a A) | (refine yD ?_; simp only [gresults, ↓yG, Nat.reduceEqDiff, ↓reduceIte, Option.bind_some, gld_1, gld_n, g67, f0, f3, f16, hx]; refine ⟨_, rfl, ?_⟩; simp only [gone]))
      case cons.refine_1 =>
        rw [fndR_yes n hc] at hf
        rw [← hf] at hPost
        exact hPost _
      case cons.refine_2 =>
        refine hJ _ _ ⟨l.length, by simp, n + 1, l, p, rfl, ?_⟩
        simp only [↓yG, Nat.reduceEqDiff, ↓reduceIte, Int.natCast_add, Int.cast_ofNat_Int, Int.natCast_zero, true_and, and_true, Option.some.injEq, Value.int.injEq, f0, f16]
        exact ⟨hI', by rw [← fndR_no n hc]; exact hf, by omega⟩
set_option maxRecDepth 100000
theorem rep_range : (REP.all fun x => decide (32 ≤ x ∧ x ≤ 9834)) = true := by kernel_rfl
set_option maxRecDepth 4000
theorem idx_range (r : Int) : idxN r < 0 ∨ (32 ≤ r ∧ r ≤ 9834) := by
  by_cases h : idxN r < 0
  · exact .inl h
  · obtain ⟨x, hx, rfl⟩ := idx_mem h
    have := List.all_eq_true.1 rep_range x hx
    simp only [decide_eq_true_eq] at this
    right; omega
theorem OS.made' {s u n : Nat} {H0 H : GHeap} {cs : List Value} (hs : Same H0 H) (h : cs.length = n * s) : OS s u H0 (H.add (some (.cells cs u true))) (.slice (some ⟨H.len, 0, none⟩) n (n + 1)) n cs :=
  ⟨hs.add _, ⟨h, .inr ⟨H.len, n + 1, rfl, .inr rfl, mine_add_eq rfl hs.wf.1⟩⟩, .inr hs.len⟩
theorem drop_bang {l : List Nat} {n : Nat} (h : n < l.length) : l.drop n = l[n]! :: l.drop (n + 1) := by rw [List.drop_eq_getElem_cons h, getElem!_pos l n h]
set_option maxRecDepth 4000
def RL (l : List Nat) : List Value := l.map fun (x : Nat) => Value.int .i32 (x : Int)
theorem RL_len (l : List Nat) : (RL l).length = l.length := by simp [RL]
theorem RL_snoc (l : List Nat) (x : Nat) : RL (l ++ [x]) = RL l ++ [.int .i32 (x : Int)] := by simp [RL]
theorem RL_at {l : List Nat} {j : Nat} (h : j < l.length) : (RL l)[j]? = some (.int .i32 (l[j]! : Nat)) := by
  rw [RL, List.getElem?_map, gget h]; rfl
theorem ItAt.ne {H : GHeap} {v : Value} {l : List Nat} {a : Nat} {c : List Value × Nat} (h : ItAt H v l) (hm : H.mine a = some c) : itId v ≠ a := by
  obtain ⟨i, s, pos, rfl, h1, h2, h3⟩ := h.ex
  rintro rfl
  have h4 : H.obj i = _ := (mine_obj hm).2
  rw [h4] at h2
  cases h2
theorem OS.ids {s u n : Nat} {H0 H : GHeap} {v : Value} {xs : List Value} (h : OS s u H0 H v n xs) {a : Nat} (ha : a ∈ idOf v) : H0.len ≤ a ∧ a < H.len ∧ H.mine a = some (xs, u) := by
  rcases h.own.at_ with ⟨e, _⟩ | ⟨i, gc, e, _, hm⟩
  · rw [e] at ha; simp [idOf] at ha
  · have hlt := mine_lt h.same.wf hm
    rw [e] at ha
    simp only [idOf, List.mem_singleton] at ha
    subst ha
    refine ⟨?_, hlt, hm⟩
    rcases h.young with e2 | e2
    · rw [e] at e2; cases e2
    · rw [e] at e2; exact e2
theorem fill1r {n : Int} : fillL (ints .i32 (List.replicate 1 0)) [(0, 1, .int .i32 n)] = some [.int .i32 n] := rfl
theorem rrunes_ok {H : GHeap} (hw : H.wf) {s : ByteArray} (hs : s.size ≤ 35184372088832) : ∃ r H', gev G 71 [.string s] H = some (r, H') ∧ OS 1 1 H H' r (rns s).length (RL (rns s)) := by
  refine gev_GW (f := 71) rfl fun Post hPost => ?_
  have hlen := rns_len s
  have hlim := hw.1
  simp only [frameOf, Nat.reduceAdd]
  repeat' (first | refine zA ?_ | refine zB ?_ | refine zC ?_ | refine zD ?_ | refine zE ?_ | refine zF ?_ | refine zG ?_ | refine zH ?_ | refine zI ?_ | refine zJ ?_ | refine zK rfl ?_ | refine zL ?_ | refine zM ?_ | refine zN ?_ | refine zO ?_ | refine zP rfl ?_ | refine zQ ?_ | ((first | refine zR ?_ | refine zS ?_ | refine zT ?_ | skip); intro K k; simp (disch := (first | (simp only [yD2, beq_self_eq_true, Nat.reduceLT, Nat.reduceAdd]; done) | ((fail_if_success (apply Bool.eq_iff_iff.2)); first | omega | (simp only [yD2, beq_self_eq_true, Nat.reduceLT, Nat.reduceAdd] <;> omega)) | fail)) only [↓yS, yT, ↓reduceIte, Nat.reduceEqDiff, Nat.reduceAdd, Nat.reduceMul, reduceCtorEq, Int.reduceToNat, g71]; refine yC (k _ _ ?_); clear k K) | ((first | refine zU ?_ | refine zV ?_ | refine zW ?_); intro A B C D a b c d; simp only [↓yG, Nat.reduceEqDiff, ↓reduceIte, g71]; (first | refine zX (a ?_) | refine zY (b ?_) | refine zZ (fun hc => c ?_) (fun hc => d ?_)) <;> clear a b c d A B C D <;> try simp only [yL] at hc) | (refine yA ?_; intro A a; simp only [↓yG, Nat.reduceEqDiff, ↓reduceIte, g71]; refine yB (a ?_); clear a A) | (refine yD ?_; simp only [gresults, ↓yG, Nat.reduceEqDiff, ↓reduceIte, Option.bind_some, gld_1, gld_n, g71]; refine ⟨_, rfl, ?_⟩; simp only [gone]))
  refine GW_loop (fun k fr H1 => ∃ (done rest : List Nat) (p v : Value), k = rest.length ∧ fr.get 3 = some (v) ∧ fr.get 7 = some (p) ∧ ItAt H1 p rest ∧ OS 1 1 H H1 v done.length (RL done) ∧ done ++ rest = rns s ∧ H.len ≤ itId p) ?_ (rns s).length ?_
  case refine_2 =>
    refine ⟨[], rns s, .pointer (some ⟨H.len, 0, none⟩), .slice none 0 0, rfl, ?_⟩
    simp only [↓yG, Nat.reduceEqDiff, ↓reduceIte, Int.natCast_add, Int.cast_ofNat_Int, Int.natCast_zero, true_and, and_true, Option.some.injEq, Value.int.injEq]
    exact ⟨ItAt.new hlim, OS.nil ((Same.refl hw).add _), rfl, Nat.le_refl _⟩
  rintro k fr H1 ⟨done, rest, p, v, rfl, f3, f7, hI, hO, hd, hp0⟩ J hJ
  have hw1 := hO.same.wf
  cases rest with
  | nil =>
    have hx := hI.nil
    repeat' (first | refine zA ?_ | refine zB ?_ | refine zC ?_ | refine zD ?_ | refine zE ?_ | refine zF ?_ | refine zG ?_ | refine zH ?_ | refine zI ?_ | refine zJ ?_ | refine zK rfl ?_ | refine zL ?_ | refine zM ?_ | refine zN ?_ | refine zO ?_ | refine zP rfl ?_ | refine zQ ?_ | ((first | refine zR ?_ | refine zS ?_ | refine zT ?_ | skip); intro K k; simp (disch := (first | (simp only [yD2, beq_self_eq_true, Nat.reduceLT, Nat.reduceAdd]; done) | ((fail_if_success (apply Bool.eq_iff_iff.2)); first | omega | (simp only [yD2, beq_self_eq_true, Nat.reduceLT, Nat.reduceAdd] <;> omega)) | fail)) only [↓yS, yT, ↓reduceIte, Nat.reduceEqDiff, Nat.reduceAdd, Nat.reduceMul, reduceCtorEq, Int.reduceToNat, g71, f3, f7, hx]; refine yC (k _ _ ?_); clear k K) | ((first | refine zU ?_ | refine zV ?_ | refine zW ?_); intro A B C D a b c d; simp only [↓yG, Nat.reduceEqDiff, ↓reduceIte, g71, f3, f7, hx]; (first | refine zX (a ?_) | refine zY (b ?_) | refine zZ (fun hc => c ?_) (fun hc => d ?_)) <;> clear a b c d A B C D <;> try simp only [yL] at hc) | (refine yA ?_; intro A a; simp only [↓yG, Nat.reduceEqDiff, ↓reduceIte, g71, f3, f7, hx]; refine yB (a ?_); clear a A) | (refine yD ?_; simp only [gresults, ↓yG, Nat.reduceEqDiff, ↓reduceIte, Option.bind_some, gld_1, gld_n, g71, f3, f7, hx]; refine ⟨_, rfl, ?_⟩; simp only [gone]))
    simp only [List.append_nil] at hd
    subst hd
    exact hPost _ _ hO
  | cons x rest =>
    obtain ⟨pos, o, hx, hI', hx'⟩ := hI.cons
    have hdl := congrArg List.length hd
    simp only [List.length_append, List.length_cons] at hdl
    repeat' (first | refine zA ?_ | refine zB ?_ | refine zC ?_ | refine zD ?_ | refine zE ?_ | refine zF ?_ | refine zG ?_ | refine zH ?_ | refine zI ?_ | refine zJ ?_ | refine zK rfl ?_ | refine zL ?_ | refine zM ?_ | refine zN ?_ | refine zO ?_ | refine zP rfl ?_ | refine zQ ?_ | ((first | refine zR ?_ | refine zS ?_ | refine zT ?_ | skip); intro K k; simp (disch := (first | (simp only [yD2, beq_self_eq_true, Nat.reduceLT, Nat.reduceAdd]; done) | ((fail_if_success (apply Bool.eq_iff_iff.2)); first | omega | (simp only [yD2, beq_self_eq_true, Nat.reduceLT, Nat.reduceAdd] <;> omega)) | fail)) only [↓yS, yT, ↓reduceIte, Nat.reduceEqDiff, Nat.reduceAdd, Nat.reduceMul, reduceCtorEq, Int.reduceToNat, g71, f3, f7, hx, fill1r]; refine yC (k _ _ ?_); clear k K) | ((first | refine zU ?_ | refine zV ?_ | refine zW ?_); intro A B C D a b c d; simp only [↓yG, Nat.reduceEqDiff, ↓reduceIte, g71, f3, f7, hx, fill1r]; (first | refine zX (a ?_) | refine zY (b ?_) | refine zZ (fun hc => c ?_) (fun hc => d ?_)) <;> clear a b c d A B C D <;> try simp only [yL] at hc) | (refine yA ?_; intro A a; simp only [↓yG, Nat.reduceEqDiff, ↓reduceIte, g71, f3, f7, hx, fill1r]; refine yB (a ?_); clear a A) | (refine yD ?_; simp only [gresults, ↓yG, Nat.reduceEqDiff, ↓reduceIte, Option.bind_some, gld_1, gld_n, g71, f3, f7, hx, fill1r]; refine ⟨_, rfl, ?_⟩; simp only [gone]))
    have hlt := hI.lt hw1
    have hy : H.len ≤ itId p := hp0
    have hB : But (fun z => z = itId p) H1 (H1.put (itId p) o) := (But.refl (S := fun z => z = itId p) hw1).put (i := itId p) rfl hlt o
    have hne : ∀ a ∈ idOf v, ¬ a = itId p := fun a ha e => hI.ne (hO.ids ha).2.2 e.symm
    have hO2 := hO.but (S := fun z => z = itId p) hB (fun k hk e => by omega) hne
    have hcell : ints .i32 ((List.replicate 1 0).set 0 (x : Int)) = [.int .i32 (x : Int)] := rfl
    rw [hcell]
    refine Gw_s fun K' hK' => ?_
    simp (disch := (first | (simp only [yD2, beq_self_eq_true, Nat.reduceLT, Nat.reduceAdd]; done) | ((fail_if_success (apply Bool.eq_iff_iff.2)); first | omega | (simp only [yD2, beq_self_eq_true, Nat.reduceLT, Nat.reduceAdd] <;> omega)) | fail)) only [↓yS, yT, ↓reduceIte, Nat.reduceEqDiff, Nat.reduceAdd, Nat.reduceMul, reduceCtorEq, Int.reduceToNat, f3, f7]
    obtain ⟨v', H2, e, hO3, hB3⟩ := hO2.app1 (by decide) (by decide) (news := [.int .i32 (x : Int)]) rfl (b := 4) (by omega) (by omega)
    refine G1_eq e (hK' _ _ ?_)
    clear hK' K' e
    have hob : H2.obj (itId p) = (H1.put (itId p) o).obj (itId p) := hB3.obj _ (by rw [len_put]; exact hlt) fun ha => hI'.ne (hO2.ids ha).2.2 rfl
    repeat' (first | refine zA ?_ | refine zB ?_ | refine zC ?_ | refine zD ?_ | refine zE ?_ | refine zF ?_ | refine zG ?_ | refine zH ?_ | refine zI ?_ | refine zJ ?_ | refine zK rfl ?_ | refine zL ?_ | refine zM ?_ | refine zN ?_ | refine zO ?_ | refine zP rfl ?_ | refine zQ ?_ | ((first | refine zR ?_ | refine zS ?_ | refine zT ?_ | skip); intro K k; simp (disch := (first | (simp only [yD2, beq_self_eq_true, Nat.reduceLT, Nat.reduceAdd]; done) | ((fail_if_success (apply Bool.eq_iff_iff.2)); first | omega | (simp only [yD2, beq_self_eq_true, Nat.reduceLT, Nat.reduceAdd] <;> omega)) | fail)) only [↓yS, yT, ↓reduceIte, Nat.reduceEqDiff, Nat.reduceAdd, Nat.reduceMul, reduceCtorEq, Int.reduceToNat, g71, f3, f7]; refine yC (k _ _ ?_); clear k K) | ((first | refine zU ?_ | refine zV ?_ | refine zW ?_); intro A B C D a b c d; simp only [↓yG, Nat.reduceEqDiff, ↓reduceIte, g71, f3, f7]; (first | refine zX (a ?_) | refine zY (b ?_) | refine zZ (fun hc => c ?_) (fun hc => d ?_)) <;> clear a b c d A B C D <;> try simp only [yL] at hc) | (refine yA ?_; intro A a; simp only [↓yG, Nat.reduceEqDiff, ↓reduceIte, g71, f3, f7]; refine yB (a ?_); clear a A) | (refine yD ?_; simp only [gresults, ↓yG, Nat.reduceEqDiff, ↓reduceIte, Option.bind_some, gld_1, gld_n, g71, f3, f7]; refine ⟨_, rfl, ?_⟩; simp only [gone]))
    refine hJ _ _ ⟨rest.length, by simp, done ++ [x], rest, p, v', rfl, ?_⟩
    simp only [↓yG, Nat.reduceEqDiff, ↓reduceIte, Int.natCast_add, Int.cast_ofNat_Int, Int.natCast_zero, true_and, and_true, Option.some.injEq, Value.int.injEq, f7]
    refine ⟨hI'.keep hB3.lim hob, ?_, by rw [← hd]; simp, hp0⟩
    rw [RL_snoc, List.length_append]
    exact hO3
/-- several elements, appended -/
theorem OS.appN {s u n m : Nat} {H0 H : GHeap} {v x : Value} {xs news : List Value} (h : OS s u H0 H v n xs) (hu : u ≠ 0) (hs : s ≠ 0) (hx : GArg1 H s x m news) {b : Nat} (hb : (n + m) * b ≤ 140737488355328) (hk : n + m < 140737488355328) :
    ∃ v' H', gapp s b u H v x = some (v', H') ∧ OS s u H0 H' v' (n + m) (xs ++ news) ∧ But (fun j => j ∈ idOf v) H H' := by
  have hw := h.same.wf
  have hg := gcells_arg hx
  have hlen := hx.rd.1
  have hct : gcount x = some m := by obtain ⟨a, gc, rfl, _⟩ := hx.sl; rfl
  by_cases hm : m = 0
  · subst hm
    have hnil : news = [] := List.eq_nil_of_length_eq_zero (by rw [hlen, Nat.zero_mul])
    subst hnil
    refine ⟨v, H, ?_, by simpa using h, But.refl hw⟩
    have : ∃ av gc, v = .slice av n gc := by
      rcases h.own.at_ with ⟨e, e2⟩ | ⟨i, gc, e, _⟩
      · exact ⟨none, 0, by rw [e, e2]⟩
      · exact ⟨_, _, e⟩
    obtain ⟨av, gc, rfl⟩ := this
    simp only [gapp, hct, Option.bind_some, hg]
    rfl
  obtain ⟨v', H', k1, k2, k3, k4, k5, k6, k7⟩ := gapp_own (bytes := b) (m := m) (x := x) (news := news) hw h.own hu hs hct hg hlen (by omega) hb (by omega)
  have key : ∀ j, j < H.len → ¬ j ∈ idOf v → H'.obj j = H.obj j := fun j hj hne => by
    refine k7 j hj ?_
    rcases h.own.at_ with ⟨e, _⟩ | ⟨i, gc, e, _⟩
    · exact .inr e
    · refine .inl fun e2 => hne ?_
      rw [e2, e]; simp [idOf, blk]
  refine ⟨v', H', k1, ⟨?_, k2, .inr (by rw [k6]; exact h.same.len)⟩, ⟨k4, by omega, key, k3⟩⟩
  refine h.same.of_obj k3 k4 (by omega) fun j hj => ?_
  refine key j (Nat.lt_of_lt_of_le hj h.same.len) fun hv => ?_
  have := (h.ids hv).1
  omega
theorem OS.arg {n : Nat} {H0 H : GHeap} {v : Value} {xs : List Value} (h : OS 1 257 H0 H v n xs) : GArg1 H 1 v n xs := OwnG.arg h.same.wf h.own (.inr rfl)
/-- bytes in a new object, appended -/
theorem OS.appB {n : Nat} {H0 H : GHeap} {v : Value} {xs : List Value} (h : OS 1 257 H0 H v n xs) (l : List UInt8) (hb : n + l.length < 140737488355328) :
    ∃ v' H', gapp 1 1 257 (H.add (some (.cells (u8s l) 257 true))) v (.slice (some ⟨H.len, 0, none⟩) l.length (l.length + 1)) = some (v', H') ∧ OS 1 257 H0 H' v' (n + l.length) (xs ++ u8s l) ∧ But (fun j => j ∈ idOf v) H H' := by
  have hw := h.same.wf
  obtain ⟨v', H', e, h1, h2⟩ := (h.later ((Same.refl hw).add (.cells (u8s l) 257 true))).appN (by decide) (by decide) (OB.made (l := l) (Same.refl hw) rfl (l.length + 1) (.inr rfl)).rb (b := 1) (by omega) (by omega)
  exact ⟨v', H', e, h1, (But.of ((Same.refl hw).add _)).trans h2⟩
def toL (b : ByteArray) : List UInt8 := b.data.toList
def encL (x : Nat) : List UInt8 := toL (Utf8.encode (x : Int))
theorem encL_toL (x : Nat) : encL x = toL (Utf8.encode (x : Int)) := rfl
def enc2 (x : Nat) : List UInt8 := [192 ||| UInt8.ofNat (x / 64), 128 ||| (UInt8.ofNat x &&& 63)]
def enc3 (x : Nat) : List UInt8 := [224 ||| UInt8.ofNat (x / 4096), 128 ||| (UInt8.ofNat (x / 64) &&& 63), 128 ||| (UInt8.ofNat x &&& 63)]
set_option maxRecDepth 100000 in
theorem enc_table : (REP.all fun x => encL x == (if x ≤ 127 then [UInt8.ofNat x] else if x ≤ 2047 then enc2 x else enc3 x)) = true := by kernel_rfl
theorem encL_eq {x : Nat} (hx : x ∈ REP) : encL x = if x ≤ 127 then [UInt8.ofNat x] else if x ≤ 2047 then enc2 x else enc3 x := by
  have := List.all_eq_true.1 enc_table x hx
  simpa using this
theorem encL_len {x : Nat} (hx : x ∈ REP) : (encL x).length ≤ 3 ∧ 1 ≤ (encL x).length := by
  rw [encL_eq hx]
  split
  · simp
  · split <;> simp [enc2, enc3]
theorem rep_le {x : Nat} (hx : x ∈ REP) : 32 ≤ x ∧ x ≤ 9834 := by
  have := List.all_eq_true.1 rep_range x hx
  simpa using this
theorem gcv_str {H : GHeap} {k : IntKind} {n : Int} : gconv .strOfInt H (.int k n) = some (.string (Utf8.encode n), none) := rfl
theorem strB_app (a : List UInt8) (e : ByteArray) : strB a ++ e = strB (a ++ toL e) := by
  apply ByteArray.ext
  rw [ByteArray.data_append]
  apply Array.ext'
  simp [strB, toL]
theorem size_list (e : ByteArray) : e.size = (toL e).length := rfl
theorem gb_addS {k : Option EqK} {a : List UInt8} {e : ByteArray} (h : a.length + (toL e).length ≤ 9223372036854775807) : gbin .add k (.string (strB a)) (.string e) = some (.string (strB (a ++ toL e))) := by
  simp only [gbin, gstr]
  rw [strB_size, size_list, if_pos h, strB_app]
theorem gb_addE {e : Option EqK} {a : List UInt8} {x : Nat} (h : a.length + (encL x).length ≤ 9223372036854775807) : gbin .add e (.string (strB a)) (.string (Utf8.encode (x : Int))) = some (.string (strB (a ++ encL x))) := by
  rw [encL_toL] at h ⊢
  exact gb_addS h
end Go.Gh
