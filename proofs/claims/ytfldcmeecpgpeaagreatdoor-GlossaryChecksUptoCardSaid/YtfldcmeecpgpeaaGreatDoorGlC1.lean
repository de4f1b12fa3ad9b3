/-
  charset, walked (as in charset's texts): one character.
-/
import Derived.Test.YtfldcmeecpgpeaaGreatDoorCsF
import Derived.Test.YtfldcmeecpgpeaaGreatDoorGlG
namespace Go.Gh
set_option linter.unusedSimpArgs false
set_option linter.unusedVariables false
set_option maxHeartbeats 4000000
open Go.RowKit Go.Lib
set_option maxRecDepth 4000
set_option maxRecDepth 4000
theorem root_wf : (⟨.nil, 0, 0⟩ : GHeap).wf := ⟨Nat.le_refl _, fun i => by simp [GHeap.obj, Tr.get_nil]⟩
theorem fndI_next {x : Nat} {l : List Nat} {r : Int} (h : ¬ (x : Int) = r) : fnd (x :: l) r = (fnd l r).map (· + 1) := by simp only [fnd, if_neg h]
def fndR (n : Nat) (l : List Nat) (r : Int) : Int := match fnd l r with
  | some m => (n + m : Nat)
  | none => -1
theorem fndR_zero (l : List Nat) (r : Int) : fndR 0 l r = fndI l r := by unfold fndR fndI; cases fnd l r <;> simp
theorem fndR_yes {x : Nat} {l : List Nat} {r : Int} (n : Nat) (h : (x : Int) = r) : fndR n (x :: l) r = n := by simp [fndR, fnd, h]
theorem fndR_no {x : Nat} {l : List Nat} {r : Int} (n : Nat) (h : ¬ (x : Int) = r) : fndR n (x :: l) r = fndR (n + 1) l r := by
  simp only [fndR, fndI_next h]
  cases fnd l r with
  | none => rfl
  | some m => simp only [Option.map_some]; congr 1; omega
theorem place_ok {s : ByteArray} (hs : s.size ≤ 4611686018427387904) {r : Int} (H : GHeap) : gev G 83 [.string s, .int .i32 r] H = some (.int .i64 (fndI (rns s) r), H) := by
  refine gev_GWP (f := 83) rfl rfl rfl (fun Post hPost => ?_) H
  have hw := root_wf
  simp only [frameOf, Nat.reduceAdd]
  repeat' (first | refine zn ?_ | refine zK rfl ?_ | refine zP rfl ?_ | ((first | refine zm ?_ | skip); intro _; intros; simp (disch := first | exact zd | fail) only [↓yS, yT, gresults, gone, ↓reduceIte, Nat.reduceEqDiff, Nat.reduceAdd, Nat.reduceMul, reduceCtorEq, Int.reduceToNat, g83]; first | (rename_i K k; (first | refine yC (k _ _ ?_) | refine zg (k _ ?_)); clear k K) | (rename_i A B C D a b c d; (first | refine zx (a ?_) | refine zy (b ?_) | refine zz (fun hc => c ?_) (fun hc => d ?_) | refine zv (b ?_) | refine zw (a ?_)) <;> clear a b c d A B C D <;> try simp only [yL] at hc)) | refine zA ?_ | refine zB ?_ | refine zF ?_)
  have hlen := rns_len s
  refine GW_loop (fun k fr H1 => ∃ (n : Nat) (l : List Nat) (p : Value), k = l.length ∧ fr.get 1 = some (.int .i32 r) ∧ fr.get 5 = some (.int .i64 n) ∧ fr.get 9 = some (p) ∧ ItAt H1 p l ∧ fndR n l r = fndI (rns s) r ∧ n + l.length ≤ s.size) ?_ (rns s).length ?_
  case refine_2 =>
    refine ⟨0, rns s, .pointer (some ⟨0, 0, none⟩), rfl, ?_⟩
    simp only [↓yG, Nat.reduceEqDiff, ↓reduceIte, Int.natCast_add, Int.cast_ofNat_Int, Int.natCast_zero, true_and, and_true, Option.some.injEq, Value.int.injEq]
    exact ⟨ItAt.new (H := ⟨.nil, 0, 0⟩) (Nat.le_refl _), fndR_zero _ _, by omega⟩
  rintro k fr H1 ⟨n, l, p, rfl, f1, f5, f9, hI, hf, hn⟩ J hJ
  cases l with
  | nil =>
    have hx := hI.nil
    repeat' (first | refine zn ?_ | refine zK rfl ?_ | refine zP rfl ?_ | ((first | refine zm ?_ | skip); intro _; intros; simp (disch := first | exact zd | fail) only [↓yS, yT, gresults, gone, ↓reduceIte, Nat.reduceEqDiff, Nat.reduceAdd, Nat.reduceMul, reduceCtorEq, Int.reduceToNat, g83, f1, f5, f9, hx]; first | (rename_i K k; (first | refine yC (k _ _ ?_) | refine zg (k _ ?_)); clear k K) | (rename_i A B C D a b c d; (first | refine zx (a ?_) | refine zy (b ?_) | refine zz (fun hc => c ?_) (fun hc => d ?_) | refine zv (b ?_) | refine zw (a ?_)) <;> clear a b c d A B C D <;> try simp only [yL] at hc)) | refine zA ?_ | refine zB ?_ | refine zF ?_)
    have he : fndI (rns s) r = -1 := hf.symm
    rw [he] at hPost
    exact hPost _
  | cons x l =>
    obtain ⟨pos, o, hx, hI', hx'⟩ := hI.cons
    simp only [List.length_cons] at hn
    repeat' (first | refine zn ?_ | refine zK rfl ?_ | refine zP rfl ?_ | ((first | refine zm ?_ | skip); intro _; intros; simp (disch := first | exact zd | fail) only [↓yS, yT, gresults, gone, ↓reduceIte, Nat.reduceEqDiff, Nat.reduceAdd, Nat.reduceMul, reduceCtorEq, Int.reduceToNat, g83, f1, f5, f9, hx]; first | (rename_i K k; (first | refine yC (k _ _ ?_) | refine zg (k _ ?_)); clear k K) | (rename_i A B C D a b c d; (first | refine zx (a ?_) | refine zy (b ?_) | refine zz (fun hc => c ?_) (fun hc => d ?_) | refine zv (b ?_) | refine zw (a ?_)) <;> clear a b c d A B C D <;> try simp only [yL] at hc)) | refine zA ?_ | refine zB ?_ | refine zF ?_)
    case cons.refine_1 =>
      rw [fndR_yes n hc] at hf
      rw [← hf] at hPost
      exact hPost _
    case cons.refine_2 =>
      refine hJ _ _ ⟨l.length, by simp, n + 1, l, p, rfl, ?_⟩
      simp only [↓yG, Nat.reduceEqDiff, ↓reduceIte, Int.natCast_add, Int.cast_ofNat_Int, Int.natCast_zero, true_and, and_true, Option.some.injEq, Value.int.injEq, f1, f9]
      exact ⟨hI', by rw [← fndR_no n hc]; exact hf, by omega⟩
theorem in_ok {s : ByteArray} (hs : s.size ≤ 4611686018427387904) {r : Int} (H : GHeap) : gev G 71 [.int .i32 r, .string s] H = some (.bool (inB (rns s) r), H) := by
  refine gev_GWP (f := 71) rfl rfl rfl (fun Post hPost => ?_) H
  simp only [frameOf, Nat.reduceAdd]
  repeat' (first | refine zn ?_ | refine zK rfl ?_ | refine zP rfl ?_ | ((first | refine zm ?_ | skip); intro _; intros; simp (disch := first | exact zd | fail) only [↓yS, yT, gresults, gone, ↓reduceIte, Nat.reduceEqDiff, Nat.reduceAdd, Nat.reduceMul, reduceCtorEq, Int.reduceToNat, g71]; first | (rename_i K k; (first | refine yC (k _ _ ?_) | refine zg (k _ ?_)); clear k K) | (rename_i A B C D a b c d; (first | refine zx (a ?_) | refine zy (b ?_) | refine zz (fun hc => c ?_) (fun hc => d ?_) | refine zv (b ?_) | refine zw (a ?_)) <;> clear a b c d A B C D <;> try simp only [yL] at hc)) | refine zA ?_ | refine zB ?_ | refine zF ?_)
  refine GW_loop (fun k fr H1 => ∃ (l : List Nat) (p : Value), k = l.length ∧ fr.get 0 = some (.int .i32 r) ∧ fr.get 8 = some (p) ∧ ItAt H1 p l ∧ inB l r = inB (rns s) r) ?_ (rns s).length ?_
  case refine_2 =>
    refine ⟨rns s, .pointer (some ⟨0, 0, none⟩), rfl, ?_⟩
    simp only [↓yG, Nat.reduceEqDiff, ↓reduceIte, Int.natCast_add, Int.cast_ofNat_Int, Int.natCast_zero, true_and, and_true, Option.some.injEq, Value.int.injEq]
    exact ItAt.new (H := ⟨.nil, 0, 0⟩) (Nat.le_refl _)
  rintro k fr H1 ⟨l, p, rfl, f0, f8, hI, hf⟩ J hJ
  cases l with
  | nil =>
    have hx := hI.nil
    repeat' (first | refine zn ?_ | refine zK rfl ?_ | refine zP rfl ?_ | ((first | refine zm ?_ | skip); intro _; intros; simp (disch := first | exact zd | fail) only [↓yS, yT, gresults, gone, ↓reduceIte, Nat.reduceEqDiff, Nat.reduceAdd, Nat.reduceMul, reduceCtorEq, Int.reduceToNat, g71, f0, f8, hx]; first | (rename_i K k; (first | refine yC (k _ _ ?_) | refine zg (k _ ?_)); clear k K) | (rename_i A B C D a b c d; (first | refine zx (a ?_) | refine zy (b ?_) | refine zz (fun hc => c ?_) (fun hc => d ?_) | refine zv (b ?_) | refine zw (a ?_)) <;> clear a b c d A B C D <;> try simp only [yL] at hc)) | refine zA ?_ | refine zB ?_ | refine zF ?_)
    have he : inB (rns s) r = false := hf.symm
    rw [he] at hPost
    exact hPost _
  | cons x l =>
    obtain ⟨pos, o, hx, hI', hx'⟩ := hI.cons
    repeat' (first | refine zn ?_ | refine zK rfl ?_ | refine zP rfl ?_ | ((first | refine zm ?_ | skip); intro _; intros; simp (disch := first | exact zd | fail) only [↓yS, yT, gresults, gone, ↓reduceIte, Nat.reduceEqDiff, Nat.reduceAdd, Nat.reduceMul, reduceCtorEq, Int.reduceToNat, g71, f0, f8, hx]; first | (rename_i K k; (first | refine yC (k _ _ ?_) | refine zg (k _ ?_)); clear k K) | (rename_i A B C D a b c d; (first | refine zx (a ?_) | refine zy (b ?_) | refine zz (fun hc => c ?_) (fun hc => d ?_) | refine zv (b ?_) | refine zw (a ?_)) <;> clear a b c d A B C D <;> try simp only [yL] at hc)) | refine zA ?_ | refine zB ?_ | refine zF ?_)
    case cons.refine_1 =>
      have : inB (x :: l) r = true := by simp [inB, fnd, hc]
      rw [← hf, this] at hPost
      exact hPost _
    case cons.refine_2 =>
      refine hJ _ _ ⟨l.length, by simp, l, p, rfl, ?_⟩
      simp only [↓yG, Nat.reduceEqDiff, ↓reduceIte, Int.natCast_add, Int.cast_ofNat_Int, Int.natCast_zero, true_and, and_true, Option.some.injEq, Value.int.injEq, f0, f8]
      exact ⟨hI', by rw [← hf]; simp [inB, fnd, hc]⟩
theorem allS_le : allS.size ≤ 4611686018427387904 := by decide
theorem rrep_ok (H : GHeap) : gev G 70 [] H = some (.string allS, H) := by
  refine gev_GWP (f := 70) rfl rfl rfl (fun Post hPost => ?_) H
  simp only [frameOf, Nat.reduceAdd]
  repeat' (first | refine zn ?_ | refine zK rfl ?_ | refine zP rfl ?_ | ((first | refine zm ?_ | skip); intro _; intros; simp (disch := first | exact zd | fail) only [↓yS, yT, gresults, gone, ↓reduceIte, Nat.reduceEqDiff, Nat.reduceAdd, Nat.reduceMul, reduceCtorEq, Int.reduceToNat, g70]; first | (rename_i K k; (first | refine yC (k _ _ ?_) | refine zg (k _ ?_)); clear k K) | (rename_i A B C D a b c d; (first | refine zx (a ?_) | refine zy (b ?_) | refine zz (fun hc => c ?_) (fun hc => d ?_) | refine zv (b ?_) | refine zw (a ?_)) <;> clear a b c d A B C D <;> try simp only [yL] at hc)) | refine zA ?_ | refine zB ?_ | refine zF ?_)
  exact hPost _
theorem idx_ok {r : Int} (hr : -2147483648 ≤ r ∧ r ≤ 2147483647) (H : GHeap) : gev G 63 [.int .i32 r] H = some (.int .i64 (idxN r), H) := by
  refine gev_GWP (f := 63) rfl rfl rfl (fun Post hPost => ?_) H
  simp only [frameOf, Nat.reduceAdd]
  unfold idxN at hPost
  repeat' (first | refine zn ?_ | refine zK rfl ?_ | refine zP rfl ?_ | ((first | refine zm ?_ | skip); intro _; intros; simp (disch := first | exact zd | fail) only [↓yS, yT, gresults, gone, ↓reduceIte, Nat.reduceEqDiff, Nat.reduceAdd, Nat.reduceMul, reduceCtorEq, Int.reduceToNat, g63]; first | (rename_i K k; (first | refine yC (k _ _ ?_) | refine zg (k _ ?_)); clear k K) | (rename_i A B C D a b c d; (first | refine zx (a ?_) | refine zy (b ?_) | refine zz (fun hc => c ?_) (fun hc => d ?_) | refine zv (b ?_) | refine zw (a ?_)) <;> clear a b c d A B C D <;> try simp only [yL] at hc)) | refine zA ?_ | refine zB ?_ | refine zF ?_)
  case refine_1.refine_1 => rw [if_pos ⟨by omega, by omega⟩] at hPost; exact hPost _
  all_goals
    rw [if_neg (by omega), ← rns_all] at hPost
    refine Gw_s fun K' hK' => G1_call (by simp only [gtarget, ↓GArg.ev, ↓evs, ↓Tr.get_set, Nat.reduceEqDiff, if_true, if_false, ↓reduceIte, Option.map_some]; rfl) (one_of (place_ok (s := allS) allS_le _)) fun r1 H1 hq => hK' _ _ ?_
    obtain ⟨rfl, rfl⟩ := hq
    repeat' (first | refine zn ?_ | refine zK rfl ?_ | refine zP rfl ?_ | ((first | refine zm ?_ | skip); intro _; intros; simp (disch := first | exact zd | fail) only [↓yS, yT, gresults, gone, ↓reduceIte, Nat.reduceEqDiff, Nat.reduceAdd, Nat.reduceMul, reduceCtorEq, Int.reduceToNat, g63]; first | (rename_i K k; (first | refine yC (k _ _ ?_) | refine zg (k _ ?_)); clear k K) | (rename_i A B C D a b c d; (first | refine zx (a ?_) | refine zy (b ?_) | refine zz (fun hc => c ?_) (fun hc => d ?_) | refine zv (b ?_) | refine zw (a ?_)) <;> clear a b c d A B C D <;> try simp only [yL] at hc)) | refine zA ?_ | refine zB ?_ | refine zF ?_)
    exact hPost _
theorem ridx_ok {r : Int} (hr : -2147483648 ≤ r ∧ r ≤ 2147483647) (H : GHeap) : gev G 46 [.int .i32 r] H = some (.int .i64 (idxN r), H) := by
  refine gev_GWP (f := 46) rfl rfl rfl (fun Post hPost => ?_) H
  simp only [frameOf, Nat.reduceAdd]
  unfold idxN at hPost
  repeat' (first | refine zn ?_ | refine zK rfl ?_ | refine zP rfl ?_ | ((first | refine zm ?_ | skip); intro _; intros; simp (disch := first | exact zd | fail) only [↓yS, yT, gresults, gone, ↓reduceIte, Nat.reduceEqDiff, Nat.reduceAdd, Nat.reduceMul, reduceCtorEq, Int.reduceToNat, g46]; first | (rename_i K k; (first | refine yC (k _ _ ?_) | refine zg (k _ ?_)); clear k K) | (rename_i A B C D a b c d; (first | refine zx (a ?_) | refine zy (b ?_) | refine zz (fun hc => c ?_) (fun hc => d ?_) | refine zv (b ?_) | refine zw (a ?_)) <;> clear a b c d A B C D <;> try simp only [yL] at hc)) | refine zA ?_ | refine zB ?_ | refine zF ?_)
  case refine_1.refine_1 => rw [if_pos ⟨by omega, by omega⟩] at hPost; exact hPost _
  all_goals
    rw [if_neg (by omega)] at hPost
    refine Gw_s fun K' hK' => G1_call (by simp only [gtarget, ↓GArg.ev, ↓evs, ↓Tr.get_set, Nat.reduceEqDiff, if_true, if_false, ↓reduceIte, Option.map_some]; rfl) (one_of (rrep_ok _)) fun r1 H1 hq => hK' _ _ ?_
    obtain ⟨rfl, rfl⟩ := hq
    repeat' (first | refine zn ?_ | refine zK rfl ?_ | refine zP rfl ?_ | ((first | refine zm ?_ | skip); intro _; intros; simp (disch := first | exact zd | fail) only [↓yS, yT, gresults, gone, ↓reduceIte, Nat.reduceEqDiff, Nat.reduceAdd, Nat.reduceMul, reduceCtorEq, Int.reduceToNat, g46]; first | (rename_i K k; (first | refine yC (k _ _ ?_) | refine zg (k _ ?_)); clear k K) | (rename_i A B C D a b c d; (first | refine zx (a ?_) | refine zy (b ?_) | refine zz (fun hc => c ?_) (fun hc => d ?_) | refine zv (b ?_) | refine zw (a ?_)) <;> clear a b c d A B C D <;> try simp only [yL] at hc)) | refine zA ?_ | refine zB ?_ | refine zF ?_)
    refine GW_loop (fun k fr H1 => ∃ (n : Nat) (l : List Nat) (p : Value), k = l.length ∧ fr.get 0 = some (.int .i32 r) ∧ fr.get 3 = some (.int .i64 n) ∧ fr.get 16 = some (p) ∧ ItAt H1 p l ∧ fndR n l r = fndI REP r ∧ n + l.length ≤ 176) ?_ 176 ?_
  case refine_1.refine_2.refine_2 =>
    refine ⟨0, REP, .pointer (some ⟨0, 0, none⟩), rfl, ?_⟩
    simp only [↓yG, Nat.reduceEqDiff, ↓reduceIte, Int.natCast_add, Int.cast_ofNat_Int, Int.natCast_zero, true_and, and_true, Option.some.injEq, Value.int.injEq]
    exact ⟨rns_all ▸ ItAt.new (H := ⟨.nil, 0, 0⟩) (s := allS) (Nat.le_refl _), fndR_zero _ _, by decide⟩
  case refine_2.refine_2 =>
    refine ⟨0, REP, .pointer (some ⟨0, 0, none⟩), rfl, ?_⟩
    simp only [↓yG, Nat.reduceEqDiff, ↓reduceIte, Int.natCast_add, Int.cast_ofNat_Int, Int.natCast_zero, true_and, and_true, Option.some.injEq, Value.int.injEq]
    exact ⟨rns_all ▸ ItAt.new (H := ⟨.nil, 0, 0⟩) (s := allS) (Nat.le_refl _), fndR_zero _ _, by decide⟩
  all_goals
    rintro k fr H1 ⟨n, l, p, rfl, f0, f3, f16, hI, hf, hn⟩ J hJ
    cases l with
    | nil =>
      have hx := hI.nil
      repeat' (first | refine zn ?_ | refine zK rfl ?_ | refine zP rfl ?_ | ((first | refine zm ?_ | skip); intro _; intros; simp (disch := first | exact zd | fail) only [↓yS, yT, gresults, gone, ↓reduceIte, Nat.reduceEqDiff, Nat.reduceAdd, Nat.reduceMul, reduceCtorEq, Int.reduceToNat, g46, f0, f3, f16, hx]; first | (rename_i K k; (first | refine yC (k _ _ ?_) | refine zg (k _ ?_)); clear k K) | (rename_i A B C D a b c d; (first | refine zx (a ?_) | refine zy (b ?_) | refine zz (fun hc => c ?_) (fun hc => d ?_) | refine zv (b ?_) | refine zw (a ?_)) <;> clear a b c d A B C D <;> try simp only [yL] at hc)) | refine zA ?_ | refine zB ?_ | refine zF ?_)
      have he : fndI REP r = -1 := hf.symm
      rw [he] at hPost
      exact hPost _
    | cons x l =>
      obtain ⟨pos, o, hx, hI', hx'⟩ := hI.cons
      simp only [List.length_cons] at hn
      repeat' (first | refine zn ?_ | refine zK rfl ?_ | refine zP rfl ?_ | ((first | refine zm ?_ | skip); intro _; intros; simp (disch := first | exact zd | fail) only [↓yS, yT, gresults, gone, ↓reduceIte, Nat.reduceEqDiff, Nat.reduceAdd, Nat.reduceMul, reduceCtorEq, Int.reduceToNat, g46, f0, f3, f16, hx]; first | (rename_i K k; (first | refine yC (k _ _ ?_) | refine zg (k _ ?_)); clear k K) | (rename_i A B C D a b c d; (first | refine zx (a ?_) | refine zy (b ?_) | refine zz (fun hc => c ?_) (fun hc => d ?_) | refine zv (b ?_) | refine zw (a ?_)) <;> clear a b c d A B C D <;> try simp only [yL] at hc)) | refine zA ?_ | refine zB ?_ | refine zF ?_)
      case cons.refine_1 =>
        rw [fndR_yes n hc] at hf
        rw [← hf] at hPost
        exact hPost _
      case cons.refine_2 =>
        refine hJ _ _ ⟨l.length, by simp, n + 1, l, p, rfl, ?_⟩
        simp only [↓yG, Nat.reduceEqDiff, ↓reduceIte, Int.natCast_add, Int.cast_ofNat_Int, Int.natCast_zero, true_and, and_true, Option.some.injEq, Value.int.injEq, f0, f16]
        exact ⟨hI', by rw [← fndR_no n hc]; exact hf, by omega⟩
set_option maxRecDepth 100000
def isB : Option Value → Bool → Bool
  | some (.bool a), b => a == b
  | _, _ => false
theorem isB_eq {x : Option Value} {b : Bool} (h : isB x b = true) : x = some (.bool b) := by
  cases x with
  | none => simp [isB] at h
  | some v => cases v <;> simp_all [isB]
def PUN : List Nat := REP.filter fun x => decide (4 ≤ clsA x)
theorem contains_run : (PUN.all fun x => isB ((gbody (gcall G 60 8) 60 g85 [.string marksS, .int .i32 (x : Int)] ⟨.nil, 0, 0⟩).map (·.1)) (inB MARKS x)) = true := by kernel_rfl
theorem contains_ok {x : Nat} (hx : x ∈ PUN) (H : GHeap) : gev G 85 [.string marksS, .int .i32 (x : Int)] H = some (.bool (inB MARKS x), H) :=
  gev_run (f := 85) rfl rfl rfl (isB_eq (List.all_eq_true.1 contains_run x hx)) H
theorem contains_at {r : Int} (h1 : ¬ idxN r < 0) (h2 : 4 ≤ clsA r) (H : GHeap) : gev G 85 [.string marksS, .int .i32 r] H = some (.bool (inB MARKS r), H) := by
  obtain ⟨x, hx, rfl⟩ := idx_mem h1
  exact contains_ok (List.mem_filter.2 ⟨hx, decide_eq_true h2⟩) H
theorem marks_le : marksS.size ≤ 4611686018427387904 := by decide
theorem let_le : letS.size ≤ 4611686018427387904 := by decide
theorem low_le : lowS.size ≤ 4611686018427387904 := by decide
set_option maxRecDepth 4000
theorem bases_ix {k : IntKind} {j : Nat} (h : j < 81) : gix none (.string basesS) (.int k j) = some (.int .u8 (BASES[j]! : Nat)) := by
  have hb : basesS.size = 81 := by decide
  have h1 := bases_at
  have h2 := congrArg (fun l => l[j]?) h1
  simp only [List.getElem?_map] at h2
  have h3 : j < basesS.data.toList.length := by have : basesS.data.toList.length = 81 := by decide
                                                omega
  rw [List.getElem?_eq_getElem h3, Option.map_some, gget (by show j < 81; exact h), Option.some.injEq] at h2
  simp only [gix, Int.toNat_natCast]
  rw [if_pos (by omega)]
  have h4 : basesS[j]? = some (basesS.data.toList[j]) := by
    rw [getElem?_pos basesS j (by rw [hb]; exact h)]
    rfl
  rw [h4, ← h2]; rfl
theorem rep_range : (REP.all fun x => decide (32 ≤ x ∧ x ≤ 9834)) = true := by kernel_rfl
theorem idx_range (r : Int) : idxN r < 0 ∨ (32 ≤ r ∧ r ≤ 9834) := by
  by_cases h : idxN r < 0
  · exact .inl h
  · obtain ⟨x, hx, rfl⟩ := idx_mem h
    have := List.all_eq_true.1 rep_range x hx
    simp only [decide_eq_true_eq] at this
    right; omega
section
variable {r : Int} (hr : -2147483648 ≤ r ∧ r ≤ 2147483647) (H : GHeap)
include hr
theorem class_ok : gev G 68 [.int .i32 r] H = some (.int .u8 (clsA r), H) := by
  refine gev_GWP (f := 68) rfl rfl rfl (fun Post hPost => ?_) H
  simp only [frameOf, Nat.reduceAdd]
  have hP : ∀ n, clsA r = n → ∀ H', Post (.int .u8 n) H' := fun n e H' => e ▸ hPost H'
  clear hPost
  have hrg := idx_range r
  repeat' (first | refine zn ?_ | refine zK rfl ?_ | refine zP rfl ?_ | ((first | refine zm ?_ | skip); intro _; intros; simp (disch := first | exact zd | fail) only [↓yS, yT, gresults, gone, ↓reduceIte, Nat.reduceEqDiff, Nat.reduceAdd, Nat.reduceMul, reduceCtorEq, Int.reduceToNat, g68]; first | (rename_i K k; (first | refine yC (k _ _ ?_) | refine zg (k _ ?_)); clear k K) | (rename_i A B C D a b c d; (first | refine zx (a ?_) | refine zy (b ?_) | refine zz (fun hc => c ?_) (fun hc => d ?_) | refine zv (b ?_) | refine zw (a ?_)) <;> clear a b c d A B C D <;> try simp only [yL] at hc)) | refine zA ?_ | refine zB ?_ | refine zF ?_)
  refine Gw_s fun K' hK' => G1_call (by simp only [gtarget, ↓GArg.ev, ↓evs, ↓Tr.get_set, Nat.reduceEqDiff, if_true, if_false, ↓reduceIte, Option.map_some]; rfl) (one_of (idx_ok hr _)) fun r1 H1 hq => hK' _ _ ?_
  obtain ⟨rfl, rfl⟩ := hq
  repeat' (first | (exfalso; omega) | refine zn ?_ | refine zK rfl ?_ | refine zP rfl ?_ | ((first | refine zm ?_ | skip); intro _; intros; simp (disch := first | exact zd | fail) only [↓yS, yT, gresults, gone, ↓reduceIte, Nat.reduceEqDiff, Nat.reduceAdd, Nat.reduceMul, reduceCtorEq, Int.reduceToNat, g68]; first | (rename_i K k; (first | refine yC (k _ _ ?_) | refine zg (k _ ?_)); clear k K) | (rename_i A B C D a b c d; (first | refine zx (a ?_) | refine zy (b ?_) | refine zz (fun hc => c ?_) (fun hc => d ?_) | refine zv (b ?_) | refine zw (a ?_)) <;> clear a b c d A B C D <;> try simp only [yL] at hc)) | refine zA ?_ | refine zB ?_ | refine zF ?_)
  all_goals first
    | exact hP _ (by unfold clsA; (repeat' split) <;> omega) _
    | skip
  all_goals
    refine Gw_s fun K' hK' => G1_call (by simp only [gtarget, ↓GArg.ev, ↓evs, ↓Tr.get_set, Nat.reduceEqDiff, if_true, if_false, ↓reduceIte, Option.map_some]; rfl) (one_of (contains_at (r := r) (by omega) (by unfold clsA; (repeat' split) <;> omega) _)) fun r1 H1 hq => hK' _ _ ?_
    obtain ⟨rfl, rfl⟩ := hq
    repeat' (first | (exfalso; omega) | refine zn ?_ | refine zK rfl ?_ | refine zP rfl ?_ | ((first | refine zm ?_ | skip); intro _; intros; simp (disch := first | exact zd | fail) only [↓yS, yT, gresults, gone, ↓reduceIte, Nat.reduceEqDiff, Nat.reduceAdd, Nat.reduceMul, reduceCtorEq, Int.reduceToNat, g68]; first | (rename_i K k; (first | refine yC (k _ _ ?_) | refine zg (k _ ?_)); clear k K) | (rename_i A B C D a b c d; (first | refine zx (a ?_) | refine zy (b ?_) | refine zz (fun hc => c ?_) (fun hc => d ?_) | refine zv (b ?_) | refine zw (a ?_)) <;> clear a b c d A B C D <;> try simp only [yL] at hc)) | refine zA ?_ | refine zB ?_ | refine zF ?_)
    all_goals exact hP _ (by unfold clsA; (repeat' split) <;> first | omega | (simp_all <;> omega)) _
set_option maxHeartbeats 2000000 in
theorem rclass_ok : gev G 73 [.int .i32 r] H = some (.int .u8 (clsB r), H) := by
  refine gev_GWP (f := 73) rfl rfl rfl (fun Post hPost => ?_) H
  simp only [frameOf, Nat.reduceAdd]
  have hP : ∀ n, clsB r = n → ∀ H', Post (.int .u8 n) H' := fun n e H' => e ▸ hPost H'
  clear hPost
  have hrg := idx_range r
  have hlt := rns_let
  have hmk := rns_marks
  repeat' (first | refine zn ?_ | refine zK rfl ?_ | refine zP rfl ?_ | ((first | refine zm ?_ | skip); intro _; intros; simp (disch := first | exact zd | fail) only [↓yS, yT, gresults, gone, ↓reduceIte, Nat.reduceEqDiff, Nat.reduceAdd, Nat.reduceMul, reduceCtorEq, Int.reduceToNat, g73]; first | (rename_i K k; (first | refine yC (k _ _ ?_) | refine zg (k _ ?_)); clear k K) | (rename_i A B C D a b c d; (first | refine zx (a ?_) | refine zy (b ?_) | refine zz (fun hc => c ?_) (fun hc => d ?_) | refine zv (b ?_) | refine zw (a ?_)) <;> clear a b c d A B C D <;> try simp only [yL] at hc)) | refine zA ?_ | refine zB ?_ | refine zF ?_)
  refine Gw_s fun K' hK' => G1_call (by simp only [gtarget, ↓GArg.ev, ↓evs, ↓Tr.get_set, Nat.reduceEqDiff, if_true, if_false, ↓reduceIte, Option.map_some]; rfl) (one_of (ridx_ok hr _)) fun r1 H1 hq => hK' _ _ ?_
  obtain ⟨rfl, rfl⟩ := hq
  repeat' (first | (exfalso; omega) | refine zn ?_ | refine zK rfl ?_ | refine zP rfl ?_ | ((first | refine zm ?_ | skip); intro _; intros; simp (disch := first | exact zd | fail) only [↓yS, yT, gresults, gone, ↓reduceIte, Nat.reduceEqDiff, Nat.reduceAdd, Nat.reduceMul, reduceCtorEq, Int.reduceToNat, g73]; first | (rename_i K k; (first | refine yC (k _ _ ?_) | refine zg (k _ ?_)); clear k K) | (rename_i A B C D a b c d; (first | refine zx (a ?_) | refine zy (b ?_) | refine zz (fun hc => c ?_) (fun hc => d ?_) | refine zv (b ?_) | refine zw (a ?_)) <;> clear a b c d A B C D <;> try simp only [yL] at hc)) | refine zA ?_ | refine zB ?_ | refine zF ?_)
  all_goals first
    | exact hP _ (by unfold clsB; (repeat' split) <;> omega) _
    | skip
  all_goals
    intro K' hK'; refine G1_call (by simp only [gtarget, ↓GArg.ev, ↓evs, ↓Tr.get_set, Nat.reduceEqDiff, if_true, if_false, ↓reduceIte, Option.map_some]; rfl) (one_of (in_ok (s := letS) let_le _)) fun r1 H1 hq => hK' _ _ ?_
    obtain ⟨rfl, rfl⟩ := hq
    rw [rns_let]
    repeat' (first | (exfalso; omega) | refine zn ?_ | refine zK rfl ?_ | refine zP rfl ?_ | ((first | refine zm ?_ | skip); intro _; intros; simp (disch := first | exact zd | fail) only [↓yS, yT, gresults, gone, ↓reduceIte, Nat.reduceEqDiff, Nat.reduceAdd, Nat.reduceMul, reduceCtorEq, Int.reduceToNat, g73]; first | (rename_i K k; (first | refine yC (k _ _ ?_) | refine zg (k _ ?_)); clear k K) | (rename_i A B C D a b c d; (first | refine zx (a ?_) | refine zy (b ?_) | refine zz (fun hc => c ?_) (fun hc => d ?_) | refine zv (b ?_) | refine zw (a ?_)) <;> clear a b c d A B C D <;> try simp only [yL] at hc)) | refine zA ?_ | refine zB ?_ | refine zF ?_)
    all_goals first
      | exact hP _ (by unfold clsB; (repeat' split) <;> first | omega | (simp_all <;> omega)) _
      | skip
    all_goals
      refine Gw_s fun K' hK' => G1_call (by simp only [gtarget, ↓GArg.ev, ↓evs, ↓Tr.get_set, Nat.reduceEqDiff, if_true, if_false, ↓reduceIte, Option.map_some]; rfl) (one_of (in_ok (s := marksS) marks_le _)) fun r1 H1 hq => hK' _ _ ?_
      obtain ⟨rfl, rfl⟩ := hq
      rw [rns_marks]
      repeat' (first | (exfalso; omega) | refine zn ?_ | refine zK rfl ?_ | refine zP rfl ?_ | ((first | refine zm ?_ | skip); intro _; intros; simp (disch := first | exact zd | fail) only [↓yS, yT, gresults, gone, ↓reduceIte, Nat.reduceEqDiff, Nat.reduceAdd, Nat.reduceMul, reduceCtorEq, Int.reduceToNat, g73]; first | (rename_i K k; (first | refine yC (k _ _ ?_) | refine zg (k _ ?_)); clear k K) | (rename_i A B C D a b c d; (first | refine zx (a ?_) | refine zy (b ?_) | refine zz (fun hc => c ?_) (fun hc => d ?_) | refine zv (b ?_) | refine zw (a ?_)) <;> clear a b c d A B C D <;> try simp only [yL] at hc)) | refine zA ?_ | refine zB ?_ | refine zF ?_)
      all_goals exact hP _ (by unfold clsB; (repeat' split) <;> first | omega | (simp_all <;> omega)) _
theorem lower_ok : gev G 65 [.int .i32 r] H = some (.int .i32 (lowA r), H) := by
  refine gev_GWP (f := 65) rfl rfl rfl (fun Post hPost => ?_) H
  simp only [frameOf, Nat.reduceAdd]
  have hP : ∀ n, lowA r = n → ∀ H', Post (.int .i32 n) H' := fun n e H' => e ▸ hPost H'
  clear hPost
  have hrg := idx_range r
  repeat' (first | refine zn ?_ | refine zK rfl ?_ | refine zP rfl ?_ | ((first | refine zm ?_ | skip); intro _; intros; simp (disch := first | exact zd | fail) only [↓yS, yT, gresults, gone, ↓reduceIte, Nat.reduceEqDiff, Nat.reduceAdd, Nat.reduceMul, reduceCtorEq, Int.reduceToNat, g65]; first | (rename_i K k; (first | refine yC (k _ _ ?_) | refine zg (k _ ?_)); clear k K) | (rename_i A B C D a b c d; (first | refine zx (a ?_) | refine zy (b ?_) | refine zz (fun hc => c ?_) (fun hc => d ?_) | refine zv (b ?_) | refine zw (a ?_)) <;> clear a b c d A B C D <;> try simp only [yL] at hc)) | refine zA ?_ | refine zB ?_ | refine zF ?_)
  refine Gw_s fun K' hK' => G1_call (by simp only [gtarget, ↓GArg.ev, ↓evs, ↓Tr.get_set, Nat.reduceEqDiff, if_true, if_false, ↓reduceIte, Option.map_some]; rfl) (one_of (idx_ok hr _)) fun r1 H1 hq => hK' _ _ ?_
  obtain ⟨rfl, rfl⟩ := hq
  repeat' (first | (exfalso; omega) | refine zn ?_ | refine zK rfl ?_ | refine zP rfl ?_ | ((first | refine zm ?_ | skip); intro _; intros; simp (disch := first | exact zd | fail) only [↓yS, yT, gresults, gone, ↓reduceIte, Nat.reduceEqDiff, Nat.reduceAdd, Nat.reduceMul, reduceCtorEq, Int.reduceToNat, g65]; first | (rename_i K k; (first | refine yC (k _ _ ?_) | refine zg (k _ ?_)); clear k K) | (rename_i A B C D a b c d; (first | refine zx (a ?_) | refine zy (b ?_) | refine zz (fun hc => c ?_) (fun hc => d ?_) | refine zv (b ?_) | refine zw (a ?_)) <;> clear a b c d A B C D <;> try simp only [yL] at hc)) | refine zA ?_ | refine zB ?_ | refine zF ?_)
  all_goals exact hP _ (by unfold lowA; (repeat' split) <;> omega) _
theorem rlower_ok : gev G 47 [.int .i32 r] H = some (.int .i32 (lowB r), H) := by
  refine gev_GWP (f := 47) rfl rfl rfl (fun Post hPost => ?_) H
  simp only [frameOf, Nat.reduceAdd]
  have hP : ∀ n, lowB r = n → ∀ H', Post (.int .i32 n) H' := fun n e H' => e ▸ hPost H'
  clear hPost
  have hrg := idx_range r
  repeat' (first | refine zn ?_ | refine zK rfl ?_ | refine zP rfl ?_ | ((first | refine zm ?_ | skip); intro _; intros; simp (disch := first | exact zd | fail) only [↓yS, yT, gresults, gone, ↓reduceIte, Nat.reduceEqDiff, Nat.reduceAdd, Nat.reduceMul, reduceCtorEq, Int.reduceToNat, g47]; first | (rename_i K k; (first | refine yC (k _ _ ?_) | refine zg (k _ ?_)); clear k K) | (rename_i A B C D a b c d; (first | refine zx (a ?_) | refine zy (b ?_) | refine zz (fun hc => c ?_) (fun hc => d ?_) | refine zv (b ?_) | refine zw (a ?_)) <;> clear a b c d A B C D <;> try simp only [yL] at hc)) | refine zA ?_ | refine zB ?_ | refine zF ?_)
  refine Gw_s fun K' hK' => G1_call (by simp only [gtarget, ↓GArg.ev, ↓evs, ↓Tr.get_set, Nat.reduceEqDiff, if_true, if_false, ↓reduceIte, Option.map_some]; rfl) (one_of (ridx_ok hr _)) fun r1 H1 hq => hK' _ _ ?_
  obtain ⟨rfl, rfl⟩ := hq
  repeat' (first | (exfalso; omega) | refine zn ?_ | refine zK rfl ?_ | refine zP rfl ?_ | ((first | refine zm ?_ | skip); intro _; intros; simp (disch := first | exact zd | fail) only [↓yS, yT, gresults, gone, ↓reduceIte, Nat.reduceEqDiff, Nat.reduceAdd, Nat.reduceMul, reduceCtorEq, Int.reduceToNat, g47]; first | (rename_i K k; (first | refine yC (k _ _ ?_) | refine zg (k _ ?_)); clear k K) | (rename_i A B C D a b c d; (first | refine zx (a ?_) | refine zy (b ?_) | refine zz (fun hc => c ?_) (fun hc => d ?_) | refine zv (b ?_) | refine zw (a ?_)) <;> clear a b c d A B C D <;> try simp only [yL] at hc)) | refine zA ?_ | refine zB ?_ | refine zF ?_)
  all_goals first
    | exact hP _ (by unfold lowB; (repeat' split) <;> omega) _
    | skip
  all_goals
    intro K' hK'; refine G1_call (by simp only [gtarget, ↓GArg.ev, ↓evs, ↓Tr.get_set, Nat.reduceEqDiff, if_true, if_false, ↓reduceIte, Option.map_some]; rfl) (one_of (in_ok (s := lowS) low_le _)) fun r1 H1 hq => hK' _ _ ?_
    obtain ⟨rfl, rfl⟩ := hq
    rw [rns_low]
    repeat' (first | (exfalso; omega) | refine zn ?_ | refine zK rfl ?_ | refine zP rfl ?_ | ((first | refine zm ?_ | skip); intro _; intros; simp (disch := first | exact zd | fail) only [↓yS, yT, gresults, gone, ↓reduceIte, Nat.reduceEqDiff, Nat.reduceAdd, Nat.reduceMul, reduceCtorEq, Int.reduceToNat, g47]; first | (rename_i K k; (first | refine yC (k _ _ ?_) | refine zg (k _ ?_)); clear k K) | (rename_i A B C D a b c d; (first | refine zx (a ?_) | refine zy (b ?_) | refine zz (fun hc => c ?_) (fun hc => d ?_) | refine zv (b ?_) | refine zw (a ?_)) <;> clear a b c d A B C D <;> try simp only [yL] at hc)) | refine zA ?_ | refine zB ?_ | refine zF ?_)
    all_goals exact hP _ (by unfold lowB; (repeat' split) <;> first | omega | (simp_all <;> omega)) _
theorem base_ok : gev G 66 [.int .i32 r] H = some (.int .i32 (basA r), H) := by
  refine gev_GWP (f := 66) rfl rfl rfl (fun Post hPost => ?_) H
  simp only [frameOf, Nat.reduceAdd]
  have hP : ∀ n, basA r = n → ∀ H', Post (.int .i32 n) H' := fun n e H' => e ▸ hPost H'
  clear hPost
  repeat' (first | refine zn ?_ | refine zK rfl ?_ | refine zP rfl ?_ | ((first | refine zm ?_ | skip); intro _; intros; simp (disch := first | exact zd | fail) only [↓yS, yT, gresults, gone, ↓reduceIte, Nat.reduceEqDiff, Nat.reduceAdd, Nat.reduceMul, reduceCtorEq, Int.reduceToNat, g66]; first | (rename_i K k; (first | refine yC (k _ _ ?_) | refine zg (k _ ?_)); clear k K) | (rename_i A B C D a b c d; (first | refine zx (a ?_) | refine zy (b ?_) | refine zz (fun hc => c ?_) (fun hc => d ?_) | refine zv (b ?_) | refine zw (a ?_)) <;> clear a b c d A B C D <;> try simp only [yL] at hc)) | refine zA ?_ | refine zB ?_ | refine zF ?_)
  refine Gw_s fun K' hK' => G1_call (by simp only [gtarget, ↓GArg.ev, ↓evs, ↓Tr.get_set, Nat.reduceEqDiff, if_true, if_false, ↓reduceIte, Option.map_some]; rfl) (one_of (idx_ok hr _)) fun r1 H1 hq => hK' _ _ ?_
  obtain ⟨rfl, rfl⟩ := hq
  have hi : idxN r < 0 ∨ idxN r < 95 ∨ ∃ j : Nat, j < 81 ∧ idxN r - 95 = j := by
    rcases idx_cases r with ⟨e, _⟩ | ⟨n, h1, e, _⟩
    · omega
    · by_cases h : n < 95
      · omega
      · exact .inr (.inr ⟨n - 95, by omega, by omega⟩)
  have hc9 : -1 ≤ idxN r ∧ idxN r < 176 := by rcases idx_cases r with ⟨e, _⟩ | ⟨n, h1, e, _⟩ <;> omega
  rcases hi with hi | hi | ⟨j, hj, hi⟩
  · repeat' (first | (exfalso; omega) | refine zn ?_ | refine zK rfl ?_ | refine zP rfl ?_ | ((first | refine zm ?_ | skip); intro _; intros; simp (disch := first | exact zd | fail) only [↓yS, yT, gresults, gone, ↓reduceIte, Nat.reduceEqDiff, Nat.reduceAdd, Nat.reduceMul, reduceCtorEq, Int.reduceToNat, g66]; first | (rename_i K k; (first | refine yC (k _ _ ?_) | refine zg (k _ ?_)); clear k K) | (rename_i A B C D a b c d; (first | refine zx (a ?_) | refine zy (b ?_) | refine zz (fun hc => c ?_) (fun hc => d ?_) | refine zv (b ?_) | refine zw (a ?_)) <;> clear a b c d A B C D <;> try simp only [yL] at hc)) | refine zA ?_ | refine zB ?_ | refine zF ?_)
    all_goals exact hP _ (by unfold basA; (repeat' split) <;> omega) _
  · repeat' (first | (exfalso; omega) | refine zn ?_ | refine zK rfl ?_ | refine zP rfl ?_ | ((first | refine zm ?_ | skip); intro _; intros; simp (disch := first | exact zd | fail) only [↓yS, yT, gresults, gone, ↓reduceIte, Nat.reduceEqDiff, Nat.reduceAdd, Nat.reduceMul, reduceCtorEq, Int.reduceToNat, g66]; first | (rename_i K k; (first | refine yC (k _ _ ?_) | refine zg (k _ ?_)); clear k K) | (rename_i A B C D a b c d; (first | refine zx (a ?_) | refine zy (b ?_) | refine zz (fun hc => c ?_) (fun hc => d ?_) | refine zv (b ?_) | refine zw (a ?_)) <;> clear a b c d A B C D <;> try simp only [yL] at hc)) | refine zA ?_ | refine zB ?_ | refine zF ?_)
    all_goals exact hP _ (by unfold basA; (repeat' split) <;> omega) _
  · have hx := fun k => bases_ix (k := k) hj
    unfold basesS at hx
    have hu : ∀ H, gconv (.int .i32) H (.int .u8 (BASES[j]! : Nat)) = some (.int .i32 (BASES[j]! : Nat), none) := by
      intro H
      have : ∀ j : Fin 81, BASES[j.val]! < 256 := by decide
      have h1 := this ⟨j, hj⟩
      simp only at h1
      rw [gcv_int, wr_i32 (by omega)]
    repeat' (first | (exfalso; omega) | refine zn ?_ | refine zK rfl ?_ | refine zP rfl ?_ | ((first | refine zm ?_ | skip); intro _; intros; simp (disch := first | exact zd | fail) only [↓yS, yT, gresults, gone, ↓reduceIte, Nat.reduceEqDiff, Nat.reduceAdd, Nat.reduceMul, reduceCtorEq, Int.reduceToNat, g66, hi, hx, hu]; first | (rename_i K k; (first | refine yC (k _ _ ?_) | refine zg (k _ ?_)); clear k K) | (rename_i A B C D a b c d; (first | refine zx (a ?_) | refine zy (b ?_) | refine zz (fun hc => c ?_) (fun hc => d ?_) | refine zv (b ?_) | refine zw (a ?_)) <;> clear a b c d A B C D <;> try simp only [yL] at hc)) | refine zA ?_ | refine zB ?_ | refine zF ?_)
    all_goals exact hP _ (by unfold basA; rw [hi, Int.toNat_natCast]; (repeat' split) <;> omega) _
theorem rbase_ok : gev G 48 [.int .i32 r] H = some (.int .i32 (basB r), H) := by
  refine gev_GWP (f := 48) rfl rfl rfl (fun Post hPost => ?_) H
  simp only [frameOf, Nat.reduceAdd]
  have hP : ∀ n, basB r = n → ∀ H', Post (.int .i32 n) H' := fun n e H' => e ▸ hPost H'
  clear hPost
  repeat' (first | refine zn ?_ | refine zK rfl ?_ | refine zP rfl ?_ | ((first | refine zm ?_ | skip); intro _; intros; simp (disch := first | exact zd | fail) only [↓yS, yT, gresults, gone, ↓reduceIte, Nat.reduceEqDiff, Nat.reduceAdd, Nat.reduceMul, reduceCtorEq, Int.reduceToNat, g48]; first | (rename_i K k; (first | refine yC (k _ _ ?_) | refine zg (k _ ?_)); clear k K) | (rename_i A B C D a b c d; (first | refine zx (a ?_) | refine zy (b ?_) | refine zz (fun hc => c ?_) (fun hc => d ?_) | refine zv (b ?_) | refine zw (a ?_)) <;> clear a b c d A B C D <;> try simp only [yL] at hc)) | refine zA ?_ | refine zB ?_ | refine zF ?_)
  refine Gw_s fun K' hK' => G1_call (by simp only [gtarget, ↓GArg.ev, ↓evs, ↓Tr.get_set, Nat.reduceEqDiff, if_true, if_false, ↓reduceIte, Option.map_some]; rfl) (one_of (ridx_ok hr _)) fun r1 H1 hq => hK' _ _ ?_
  obtain ⟨rfl, rfl⟩ := hq
  repeat' (first | (exfalso; omega) | refine zn ?_ | refine zK rfl ?_ | refine zP rfl ?_ | ((first | refine zm ?_ | skip); intro _; intros; simp (disch := first | exact zd | fail) only [↓yS, yT, gresults, gone, ↓reduceIte, Nat.reduceEqDiff, Nat.reduceAdd, Nat.reduceMul, reduceCtorEq, Int.reduceToNat, g48]; first | (rename_i K k; (first | refine yC (k _ _ ?_) | refine zg (k _ ?_)); clear k K) | (rename_i A B C D a b c d; (first | refine zx (a ?_) | refine zy (b ?_) | refine zz (fun hc => c ?_) (fun hc => d ?_) | refine zv (b ?_) | refine zw (a ?_)) <;> clear a b c d A B C D <;> try simp only [yL] at hc)) | refine zA ?_ | refine zB ?_ | refine zF ?_)
  case refine_1 => exact hP _ (by unfold basB; (repeat' split) <;> omega) _
  case refine_2.refine_1 => exact hP _ (by unfold basB; (repeat' split) <;> omega) _
  have hb : basB r = match fnd TAIL r with
      | some k => (BASES[k]! : Nat)
      | none => r := by unfold basB; rw [if_neg (by omega), if_neg (by omega)]; rfl
  refine GW_loop (fun k fr H1 => ∃ (n : Nat) (l : List Nat) (p : Value), k = l.length ∧ fr.get 0 = some (.int .i32 r) ∧ fr.get 3 = some (.int .i64 n) ∧ fr.get 12 = some (p) ∧ ItAt H1 p l ∧ (match fnd TAIL r with | some k => ∃ m, fnd l r = some m ∧ k = n + m | none => fnd l r = none) ∧ n + l.length ≤ 81) ?_ 81 ?_
  case refine_2.refine_2.refine_2 =>
    refine ⟨0, TAIL, .pointer (some ⟨0, 0, none⟩), rfl, ?_⟩
    simp only [↓yG, Nat.reduceEqDiff, ↓reduceIte, Int.natCast_add, Int.cast_ofNat_Int, Int.natCast_zero, true_and, and_true, Option.some.injEq, Value.int.injEq]
    refine ⟨rns_tail ▸ ItAt.new (H := ⟨.nil, 0, 0⟩) (s := tailS) (Nat.le_refl _), ?_, by decide⟩
    cases fnd TAIL r with
    | none => rfl
    | some k => exact ⟨k, rfl, by omega⟩
  rintro k fr H1 ⟨n, l, p, rfl, f0, f3, f12, hI, hf, hn⟩ J hJ
  cases l with
  | nil =>
    have hx := hI.nil
    repeat' (first | refine zn ?_ | refine zK rfl ?_ | refine zP rfl ?_ | ((first | refine zm ?_ | skip); intro _; intros; simp (disch := first | exact zd | fail) only [↓yS, yT, gresults, gone, ↓reduceIte, Nat.reduceEqDiff, Nat.reduceAdd, Nat.reduceMul, reduceCtorEq, Int.reduceToNat, g48, f0, f3, f12, hx]; first | (rename_i K k; (first | refine yC (k _ _ ?_) | refine zg (k _ ?_)); clear k K) | (rename_i A B C D a b c d; (first | refine zx (a ?_) | refine zy (b ?_) | refine zz (fun hc => c ?_) (fun hc => d ?_) | refine zv (b ?_) | refine zw (a ?_)) <;> clear a b c d A B C D <;> try simp only [yL] at hc)) | refine zA ?_ | refine zB ?_ | refine zF ?_)
    refine hP _ ?_ _
    rw [hb]
    cases h : fnd TAIL r with
    | none => rfl
    | some k => rw [h] at hf; obtain ⟨m, h1, _⟩ := hf; cases h1
  | cons x l =>
    obtain ⟨pos, o, hx, hI', hx'⟩ := hI.cons
    simp only [List.length_cons] at hn
    have hix := fun k => bases_ix (k := k) (show n < 81 by omega)
    unfold basesS at hix
    have hu : ∀ H, gconv (.int .i32) H (.int .u8 (BASES[n]! : Nat)) = some (.int .i32 (BASES[n]! : Nat), none) := by
      intro H
      have : ∀ j : Fin 81, BASES[j.val]! < 256 := by decide
      have h1 := this ⟨n, by omega⟩
      simp only at h1
      rw [gcv_int, wr_i32 (by omega)]
    repeat' (first | refine zn ?_ | refine zK rfl ?_ | refine zP rfl ?_ | ((first | refine zm ?_ | skip); intro _; intros; simp (disch := first | exact zd | fail) only [↓yS, yT, gresults, gone, ↓reduceIte, Nat.reduceEqDiff, Nat.reduceAdd, Nat.reduceMul, reduceCtorEq, Int.reduceToNat, g48, f0, f3, f12, hx, hix, hu]; first | (rename_i K k; (first | refine yC (k _ _ ?_) | refine zg (k _ ?_)); clear k K) | (rename_i A B C D a b c d; (first | refine zx (a ?_) | refine zy (b ?_) | refine zz (fun hc => c ?_) (fun hc => d ?_) | refine zv (b ?_) | refine zw (a ?_)) <;> clear a b c d A B C D <;> try simp only [yL] at hc)) | refine zA ?_ | refine zB ?_ | refine zF ?_)
    case cons.refine_1 =>
      refine hP _ ?_ _
      rw [hb]
      cases h : fnd TAIL r with
      | none => rw [h] at hf; simp [fnd, hc] at hf
      | some k =>
        rw [h] at hf
        obtain ⟨m, h1, h2⟩ := hf
        simp only [fnd, if_pos hc, Option.some.injEq] at h1
        subst h1
        simp [h2]
    case cons.refine_2 =>
      refine hJ _ _ ⟨l.length, by simp, n + 1, l, p, rfl, ?_⟩
      simp only [↓yG, Nat.reduceEqDiff, ↓reduceIte, Int.natCast_add, Int.cast_ofNat_Int, Int.natCast_zero, true_and, and_true, Option.some.injEq, Value.int.injEq, f0, f12]
      refine ⟨hI', ?_, by omega⟩
      cases h : fnd TAIL r with
      | none =>
        rw [h] at hf
        simp only [fndI_next hc, Option.map_eq_none_iff] at hf
        exact hf
      | some k =>
        rw [h] at hf
        obtain ⟨m, h1, h2⟩ := hf
        simp only [fndI_next hc, Option.map_eq_some_iff] at h1
        obtain ⟨m', h3, h4⟩ := h1
        exact ⟨m', h3, by omega⟩
end
set_option maxRecDepth 4000
def RL (l : List Nat) : List Value := l.map fun (x : Nat) => Value.int .i32 (x : Int)
theorem RL_len (l : List Nat) : (RL l).length = l.length := by simp [RL]
theorem RL_snoc (l : List Nat) (x : Nat) : RL (l ++ [x]) = RL l ++ [.int .i32 (x : Int)] := by simp [RL]
theorem RL_at {l : List Nat} {j : Nat} (h : j < l.length) : (RL l)[j]? = some (.int .i32 (l[j]! : Nat)) := by
  rw [RL, List.getElem?_map, gget h]; rfl
theorem ItAt.ne {H : GHeap} {v : Value} {l : List Nat} {a : Nat} {c : List Value × Nat} (h : ItAt H v l) (hm : H.mine a = some c) : itId v ≠ a := by
  obtain ⟨i, s, pos, rfl, h1, h2, h3⟩ := h.ex
  rintro rfl
  have h4 : H.obj i = _ := (mine_obj hm).2
  rw [h4] at h2
  cases h2
theorem OS.ids {s u n : Nat} {H0 H : GHeap} {v : Value} {xs : List Value} (h : OS s u H0 H v n xs) {a : Nat} (ha : a ∈ idOf v) : H0.len ≤ a ∧ a < H.len ∧ H.mine a = some (xs, u) := by
  rcases h.own.at_ with ⟨e, _⟩ | ⟨i, gc, e, _, hm⟩
  · rw [e] at ha; simp [idOf] at ha
  · have hlt := mine_lt h.same.wf hm
    rw [e] at ha
    simp only [idOf, List.mem_singleton] at ha
    subst ha
    refine ⟨?_, hlt, hm⟩
    rcases h.young with e2 | e2
    · rw [e] at e2; cases e2
    · rw [e] at e2; exact e2
theorem fill1r {n : Int} : fillL (ints .i32 (List.replicate 1 0)) [(0, 1, .int .i32 n)] = some [.int .i32 n] := rfl
theorem rrunes_ok {H : GHeap} (hw : H.wf) {s : ByteArray} (hs : s.size ≤ 35184372088832) : ∃ r H', gev G 72 [.string s] H = some (r, H') ∧ OS 1 1 H H' r (rns s).length (RL (rns s)) := by
  refine gev_GW (f := 72) rfl fun Post hPost => ?_
  have hlen := rns_len s
  have hlim := hw.1
  simp only [frameOf, Nat.reduceAdd]
  repeat' (first | refine zn ?_ | refine zK rfl ?_ | refine zP rfl ?_ | ((first | refine zm ?_ | skip); intro _; intros; simp (disch := first | exact zd | fail) only [↓yS, yT, gresults, gone, ↓reduceIte, Nat.reduceEqDiff, Nat.reduceAdd, Nat.reduceMul, reduceCtorEq, Int.reduceToNat, g72]; first | (rename_i K k; (first | refine yC (k _ _ ?_) | refine zg (k _ ?_)); clear k K) | (rename_i A B C D a b c d; (first | refine zx (a ?_) | refine zy (b ?_) | refine zz (fun hc => c ?_) (fun hc => d ?_) | refine zv (b ?_) | refine zw (a ?_)) <;> clear a b c d A B C D <;> try simp only [yL] at hc)) | refine zA ?_ | refine zB ?_ | refine zF ?_)
  refine GW_loop (fun k fr H1 => ∃ (done rest : List Nat) (p v : Value), k = rest.length ∧ fr.get 3 = some (v) ∧ fr.get 7 = some (p) ∧ ItAt H1 p rest ∧ OS 1 1 H H1 v done.length (RL done) ∧ done ++ rest = rns s ∧ H.len ≤ itId p) ?_ (rns s).length ?_
  case refine_2 =>
    refine ⟨[], rns s, .pointer (some ⟨H.len, 0, none⟩), .slice none 0 0, rfl, ?_⟩
    simp only [↓yG, Nat.reduceEqDiff, ↓reduceIte, Int.natCast_add, Int.cast_ofNat_Int, Int.natCast_zero, true_and, and_true, Option.some.injEq, Value.int.injEq]
    exact ⟨ItAt.new hlim, OS.nil ((Same.refl hw).add _), rfl, Nat.le_refl _⟩
  rintro k fr H1 ⟨done, rest, p, v, rfl, f3, f7, hI, hO, hd, hp0⟩ J hJ
  have hw1 := hO.same.wf
  cases rest with
  | nil =>
    have hx := hI.nil
    repeat' (first | refine zn ?_ | refine zK rfl ?_ | refine zP rfl ?_ | ((first | refine zm ?_ | skip); intro _; intros; simp (disch := first | exact zd | fail) only [↓yS, yT, gresults, gone, ↓reduceIte, Nat.reduceEqDiff, Nat.reduceAdd, Nat.reduceMul, reduceCtorEq, Int.reduceToNat, g72, f3, f7, hx]; first | (rename_i K k; (first | refine yC (k _ _ ?_) | refine zg (k _ ?_)); clear k K) | (rename_i A B C D a b c d; (first | refine zx (a ?_) | refine zy (b ?_) | refine zz (fun hc => c ?_) (fun hc => d ?_) | refine zv (b ?_) | refine zw (a ?_)) <;> clear a b c d A B C D <;> try simp only [yL] at hc)) | refine zA ?_ | refine zB ?_ | refine zF ?_)
    simp only [List.append_nil] at hd
    subst hd
    exact hPost _ _ hO
  | cons x rest =>
    obtain ⟨pos, o, hx, hI', hx'⟩ := hI.cons
    have hdl := congrArg List.length hd
    simp only [List.length_append, List.length_cons] at hdl
    repeat' (first | refine zn ?_ | refine zK rfl ?_ | refine zP rfl ?_ | ((first | refine zm ?_ | skip); intro _; intros; simp (disch := first | exact zd | fail) only [↓yS, yT, gresults, gone, ↓reduceIte, Nat.reduceEqDiff, Nat.reduceAdd, Nat.reduceMul, reduceCtorEq, Int.reduceToNat, g72, f3, f7, hx, fill1r]; first | (rename_i K k; (first | refine yC (k _ _ ?_) | refine zg (k _ ?_)); clear k K) | (rename_i A B C D a b c d; (first | refine zx (a ?_) | refine zy (b ?_) | refine zz (fun hc => c ?_) (fun hc => d ?_) | refine zv (b ?_) | refine zw (a ?_)) <;> clear a b c d A B C D <;> try simp only [yL] at hc)) | refine zA ?_ | refine zB ?_ | refine zF ?_)
    have hlt := hI.lt hw1
    have hy : H.len ≤ itId p := hp0
    have hB : But (fun z => z = itId p) H1 (H1.put (itId p) o) := (But.refl (S := fun z => z = itId p) hw1).put (i := itId p) rfl hlt o
    have hne : ∀ a ∈ idOf v, ¬ a = itId p := fun a ha e => hI.ne (hO.ids ha).2.2 e.symm
    have hO2 := hO.but (S := fun z => z = itId p) hB (fun k hk e => by omega) hne
    have hcell : ints .i32 ((List.replicate 1 0).set 0 (x : Int)) = [.int .i32 (x : Int)] := rfl
    rw [hcell]
    refine Gw_s fun K' hK' => ?_
    simp (disch := first | exact zd | fail) only [↓yS, yT, ↓reduceIte, Nat.reduceEqDiff, Nat.reduceAdd, Nat.reduceMul, reduceCtorEq, Int.reduceToNat, f3, f7]
    obtain ⟨v', H2, e, hO3, hB3⟩ := hO2.app1 (by decide) (by decide) (news := [.int .i32 (x : Int)]) rfl (b := 4) (by omega) (by omega)
    refine G1_eq e (hK' _ _ ?_)
    clear hK' K' e
    have hob : H2.obj (itId p) = (H1.put (itId p) o).obj (itId p) := hB3.obj _ (by rw [len_put]; exact hlt) fun ha => hI'.ne (hO2.ids ha).2.2 rfl
    repeat' (first | refine zn ?_ | refine zK rfl ?_ | refine zP rfl ?_ | ((first | refine zm ?_ | skip); intro _; intros; simp (disch := first | exact zd | fail) only [↓yS, yT, gresults, gone, ↓reduceIte, Nat.reduceEqDiff, Nat.reduceAdd, Nat.reduceMul, reduceCtorEq, Int.reduceToNat, g72, f3, f7]; first | (rename_i K k; (first | refine yC (k _ _ ?_) | refine zg (k _ ?_)); clear k K) | (rename_i A B C D a b c d; (first | refine zx (a ?_) | refine zy (b ?_) | refine zz (fun hc => c ?_) (fun hc => d ?_) | refine zv (b ?_) | refine zw (a ?_)) <;> clear a b c d A B C D <;> try simp only [yL] at hc)) | refine zA ?_ | refine zB ?_ | refine zF ?_)
    refine hJ _ _ ⟨rest.length, by simp, done ++ [x], rest, p, v', rfl, ?_⟩
    simp only [↓yG, Nat.reduceEqDiff, ↓reduceIte, Int.natCast_add, Int.cast_ofNat_Int, Int.natCast_zero, true_and, and_true, Option.some.injEq, Value.int.injEq, f7]
    refine ⟨hI'.keep hB3.lim hob, ?_, by rw [← hd]; simp, hp0⟩
    rw [RL_snoc, List.length_append]
    exact hO3
end Go.Gh
