/-
  style's reference, walked: Letters.
-/
import Derived.Test.YtgbibkkcnkaelaaDoorSyT2
namespace Go.Gh
set_option linter.unusedSimpArgs false
set_option linter.unusedVariables false
open Go.RowKit
set_option maxRecDepth 4000

theorem colB_q {c : Int} (h0 : 1 ≤ c) (h1 : c ≤ 6) : (([63, 103, 98, 99, 114, 121, 109] : List UInt8).take (c + 1).toNat).drop c.toNat = colB c := by
  have : c = 1 ∨ c = 2 ∨ c = 3 ∨ c = 4 ∨ c = 5 ∨ c = 6 := by omega
  rcases this with rfl | rfl | rfl | rfl | rfl | rfl <;> rfl
theorem add_c {e : Option EqK} {a b : List UInt8} {B : ByteArray} (hB : B = strB b) (h : a.length + b.length ≤ 9223372036854775807) : gbin .add e (.string (strB a)) (.string B) = some (.string (strB (a ++ b))) := by
  rw [hB]; exact gb_addB h
theorem letters_ok {s : Sy} (h0 : 0 ≤ s.c) (h : okS s = true) (H : GHeap) : gev G 61 [syV s] H = some (.string (strB (letB s)), H) := by
  refine gev_GWP (f := 61) rfl (by simp [lit_sy]) rfl (fun Post hPost => ?_) H
  have hPL : ∀ (B : ByteArray) (H' : GHeap), strB (letB s) = B → Post (.string B) H' := fun B H' e => by rw [← e]; exact hPost H'
  have hw := root_wf
  have hlim := hw.1
  have h6 : s.c ≤ 6 := by simpa [okS] using h
  have hcl := colB_len (c := s.c)
  have hsl : 1 ≤ s.c → ∀ H, gslice .str H (.string ⟨#[63, 103, 98, 99, 114, 121, 109]⟩) (some (.int .u8 s.c)) (some (.int .u8 (s.c + 1))) none = some (.string (strB (colB s.c))) := fun h1 H => by
    have := sl_mid (H := H) (l := [63, 103, 98, 99, 114, 121, 109]) (k := .u8) (k' := .u8) (a := s.c) (b := s.c + 1) (by omega) (by omega) (by simp only [List.length_cons, List.length_nil]; omega)
    rw [colB_q h1 h6] at this
    exact this
  have hI := fun e (a : List UInt8) (ha : a.length ≤ 100) => add_c (e := e) (a := a) (b := [105]) (B := ⟨#[105]⟩) rfl (by simp only [List.length_cons, List.length_nil]; omega)
  have hU := fun e (a : List UInt8) (ha : a.length ≤ 100) => add_c (e := e) (a := a) (b := [117]) (B := ⟨#[117]⟩) rfl (by simp only [List.length_cons, List.length_nil]; omega)
  have hz : ∀ B : ByteArray, B = ⟨#[]⟩ → B = strB [] := fun B h => by rw [h]; rfl
  simp only [frameOf, Nat.reduceAdd]
  repeat' (first | refine zA ?_ | refine zB ?_ | refine zC ?_ | refine zD ?_ | refine zE ?_ | refine zF ?_ | refine zG ?_ | refine zH ?_ | refine zI ?_ | refine zJ ?_ | refine zK rfl ?_ | refine zL ?_ | refine zM ?_ | refine zN ?_ | refine zO ?_ | refine zP rfl ?_ | refine zQ ?_ | ((first | refine zR ?_ | refine zS ?_ | refine zT ?_ | skip); intro K k; simp (disch := (first | (simp only [yD2, beq_self_eq_true, Nat.reduceLT, Nat.reduceAdd]; done) | ((fail_if_success (apply Bool.eq_iff_iff.2)); first | omega | (simp only [yD2, beq_self_eq_true, Nat.reduceLT, Nat.reduceAdd] <;> omega)) | fail)) only [↓yS, yT, ↓reduceIte, Nat.reduceEqDiff, Nat.reduceAdd, Nat.reduceMul, reduceCtorEq, Int.reduceToNat, g61, RN]; refine yC (k _ _ ?_); clear k K) | ((first | refine zU ?_ | refine zV ?_ | refine zW ?_); intro A B C D a b c d; simp only [↓yG, Nat.reduceEqDiff, ↓reduceIte, g61, RN]; (first | refine zX (a ?_) | refine zY (b ?_) | refine zZ (fun hc => c ?_) (fun hc => d ?_)) <;> clear a b c d A B C D <;> try simp only [yL] at hc) | (refine yA ?_; intro A a; simp only [↓yG, Nat.reduceEqDiff, ↓reduceIte, g61, RN]; refine yB (a ?_); clear a A) | (refine yD ?_; simp only [gresults, ↓yG, Nat.reduceEqDiff, ↓reduceIte, Option.bind_some, gld_1, gld_n, g61, RN]; refine ⟨_, rfl, ?_⟩; simp only [gone]))
  case refine_1 =>
    have h1 : 1 ≤ s.c := by omega
    have hs1 := hsl h1
    intro K' hK'; refine G1_call (by simp only [gtarget, ↓GArg.ev, ↓evs, ↓Tr.get_set, Nat.reduceEqDiff, if_true, if_false, ↓reduceIte, Option.map_some]; rfl) (one_of (rValid_ok s _)) fun r2 H2 hq => hK' _ _ ?_
    obtain ⟨rfl, rfl⟩ := hq
    rw [h]
    have a1 := fun e => hI e (colB s.c) (by omega)
    have a2 := fun e => hU e (colB s.c) (by omega)
    have a3 := fun e => hU e (colB s.c ++ [105]) (by simp only [List.length_append, List.length_cons, List.length_nil]; omega)
    repeat' (first | (exfalso; omega) | refine zA ?_ | refine zB ?_ | refine zC ?_ | refine zD ?_ | refine zE ?_ | refine zF ?_ | refine zG ?_ | refine zH ?_ | refine zI ?_ | refine zJ ?_ | refine zK rfl ?_ | refine zL ?_ | refine zM ?_ | refine zN ?_ | refine zO ?_ | refine zP rfl ?_ | refine zQ ?_ | ((first | refine zR ?_ | refine zS ?_ | refine zT ?_ | skip); intro K k; simp (disch := (first | (simp only [yD2, beq_self_eq_true, Nat.reduceLT, Nat.reduceAdd]; done) | ((fail_if_success (apply Bool.eq_iff_iff.2)); first | omega | (simp only [yD2, beq_self_eq_true, Nat.reduceLT, Nat.reduceAdd] <;> omega)) | fail)) only [↓yS, yT, ↓reduceIte, Nat.reduceEqDiff, Nat.reduceAdd, Nat.reduceMul, reduceCtorEq, Int.reduceToNat, g61, RN, hs1, a1, a2, a3]; refine yC (k _ _ ?_); clear k K) | ((first | refine zU ?_ | refine zV ?_ | refine zW ?_); intro A B C D a b c d; simp only [↓yG, Nat.reduceEqDiff, ↓reduceIte, g61, RN, hs1, a1, a2, a3]; (first | refine zX (a ?_) | refine zY (b ?_) | refine zZ (fun hc => c ?_) (fun hc => d ?_)) <;> clear a b c d A B C D <;> try simp only [yL] at hc) | (refine yA ?_; intro A a; simp only [↓yG, Nat.reduceEqDiff, ↓reduceIte, g61, RN, hs1, a1, a2, a3]; refine yB (a ?_); clear a A) | (refine yD ?_; simp only [gresults, ↓yG, Nat.reduceEqDiff, ↓reduceIte, Option.bind_some, gld_1, gld_n, g61, RN, hs1, a1, a2, a3]; refine ⟨_, rfl, ?_⟩; simp only [gone]))
    all_goals exact hPL _ _ (by simp [letB, iB, uB, *])
  all_goals
    refine hPL _ _ ?_
    have h2 : letB s = iB s.i ++ uB s.u := by simp [letB, colB, *]
    rw [h2]
    simp only [iB, uB, *, if_true]
    rfl
end Go.Gh
