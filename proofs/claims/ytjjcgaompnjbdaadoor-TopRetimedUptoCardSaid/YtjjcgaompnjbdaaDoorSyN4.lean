/-
  style and its reference, walked: Valid, Check.
-/
import Derived.Test.YtjjcgaompnjbdaaDoorSyA2
namespace Go.Gh
set_option linter.unusedSimpArgs false
set_option linter.unusedVariables false
set_option maxHeartbeats 4000000
open Go.RowKit
set_option maxRecDepth 4000

def okS (s : Sy) : Bool := decide (s.c ≤ 6)
theorem Valid_ok (s : Sy) (H : GHeap) : gev G 60 [syV s] H = some (.bool (okS s), H) := by
  refine gev_GWP (f := 60) rfl (by simp [lit_sy]) rfl (fun Post hPost => ?_) H
  have hw := root_wf
  have hlim := hw.1
  simp only [frameOf, Nat.reduceAdd]
  repeat' (first | refine zn ?_ | refine zK rfl ?_ | refine zP rfl ?_ | ((first | refine zm ?_ | skip); intro _; intros; simp (disch := first | exact zd | fail) only [↓yS, yT, gresults, gone, ↓reduceIte, Nat.reduceEqDiff, Nat.reduceAdd, Nat.reduceMul, reduceCtorEq, Int.reduceToNat, g60, RN]; first | (rename_i K k; (first | refine yC (k _ _ ?_) | refine zg (k _ ?_)); clear k K) | (rename_i A B C D a b c d; (first | refine zx (a ?_) | refine zy (b ?_) | refine zz (fun hc => c ?_) (fun hc => d ?_) | refine zv (b ?_) | refine zw (a ?_)) <;> clear a b c d A B C D <;> try simp only [yL] at hc)) | refine zA ?_ | refine zB ?_ | refine zF ?_)
  exact hPost _
def yR (x : SR) : Bool := vldB (strB x.y)
/-- a run behind another one -/
def chk1 (p : Option SR) (x : SR) : Int :=
  if vR x = false then 10 else if x.t = [] then 4 else if okS x.s = false then 12 else if yR x = false then 10 else
    match p with
    | some z => if alikeF z x = true then 8 else 0
    | none => 0
def chkGo : Option SR → List SR → Int
  | _, [] => 0
  | p, x :: r => if chk1 p x = 0 then chkGo (some x) r else chk1 p x
def checkF (l : List SR) : Int := if 16 < l.length then 9 else chkGo none l
/-- the run ahead of a place -/
def prevR (l : List SR) : Nat → Option SR
  | 0 => none
  | j + 1 => some l[j]!
/-- strings of a length that can be looked at -/
def ShR (l : List SR) : Prop := ∀ x ∈ l, x.t.length ≤ 140737488355328 ∧ x.y.length ≤ 140737488355328
theorem check_ok {H : GHeap} (hw : H.wf) {v : Value} {l : List SR} (hv : RR H v l) (hll : l.length ≤ 4611686018427387904) (hsh : ShR l) :
    ∃ r H', gev G 46 [rowV v] H = some (r, H') ∧ (r = .int .i64 (checkF l) ∧ Same H H') := by
  refine gev_GW (f := 46) rfl fun Post hPost => ?_
  have hlim := hw.1
  have hf := hv.flat
  have hsl := hv.isSl
  simp only [frameOf, Nat.reduceAdd]
  have hSb : Same H (H.add (some (.cells [v] 0 true))) := (Same.refl hw).add _
  repeat' (first | refine zn ?_ | refine zK rfl ?_ | refine zP rfl ?_ | ((first | refine zm ?_ | skip); intro _; intros; simp (disch := first | exact zd | fail) only [↓yS, yT, gresults, gone, ↓reduceIte, Nat.reduceEqDiff, Nat.reduceAdd, Nat.reduceMul, reduceCtorEq, Int.reduceToNat, g46, rowV_eq, agg_all, agg_list, hf, hsl.len]; first | (rename_i K k; (first | refine yC (k _ _ ?_) | refine zg (k _ ?_)); clear k K) | (rename_i A B C D a b c d; (first | refine zx (a ?_) | refine zy (b ?_) | refine zz (fun hc => c ?_) (fun hc => d ?_) | refine zv (b ?_) | refine zw (a ?_)) <;> clear a b c d A B C D <;> try simp only [yL] at hc)) | refine zA ?_ | refine zB ?_ | refine zF ?_)
  case refine_1 => exact hPost _ _ ⟨by rw [checkF, if_pos (by omega)], hSb⟩
  have hcf : checkF l = chkGo none l := by rw [checkF, if_neg (by omega)]
  refine GW_loop (fun k fr H1 => ∃ (j : Nat), k = l.length - j ∧ j ≤ l.length ∧ fr.get 1 = some (.pointer (some ⟨H.len, 0, none⟩)) ∧ fr.get 10 = some (v) ∧ fr.get 11 = some (.int .i64 l.length) ∧ fr.get 12 = some (.int .i64 j) ∧ Same H H1 ∧ H1.rd H.len 0 = some v ∧ H.len < H1.len ∧ checkF l = chkGo (prevR l j) (l.drop j)) ?_ l.length ?_
  rotate_left
  · refine ⟨0, by omega, by omega, ?_⟩
    simp only [↓yG, Nat.reduceEqDiff, ↓reduceIte, Int.natCast_add, Int.cast_ofNat_Int, Int.natCast_zero, true_and, and_true, Option.some.injEq, Value.int.injEq]
    exact ⟨hSb, rd_add_eq rfl, by rw [len_add]; omega, hcf⟩
  rintro k fr H1 ⟨j, rfl, hj, f1, f10, f11, f12, hS, hr0, hlt0, hck⟩ J hJ
  have hw1 := hS.wf
  have hlim1 := hw1.1
  by_cases hj1 : j < l.length
  · have hvl := hv.later hw hS
    have e1 := hvl.rowN hj1
    have hmem : l[j]! ∈ l := by rw [getElem!_pos l j hj1]; exact List.getElem_mem _
    have hs1 := hsh _ hmem
    rw [drop_bangR hj1] at hck
    have hpn : prevR l (j + 1) = some l[j]! := rfl
    generalize hx : l[j]! = x at *
    obtain ⟨H2, hH2⟩ : ∃ H2, H2 = (H1.add (some (.cells [.string ⟨#[]⟩, .int .u8 0, .bool false, .bool false, .string ⟨#[]⟩] 0 true))).put H1.len (.cells (runC x) 0 true) := ⟨_, rfl⟩
    have hS12 : Same H1 H2 := hH2 ▸ (Same.refl hw1).new _ _
    have x5 : H2.rdn H1.len 0 5 = some (runV x) := by rw [hH2, rdn_runp]
    have x3 : H2.rdn H1.len 1 3 = some (syV x.s) := by rw [hH2, rdn_run3p]
    have x0 : H2.rd H1.len 0 = some (.string (strB x.t)) := by rw [hH2, rd_put_same]; rfl
    have x4 : H2.rd H1.len 4 = some (.string (strB x.y)) := by rw [hH2, rd_put_same]; rfl
    have hr2 : H2.rd H.len 0 = some v := by rw [hS12.rd hlt0]; exact hr0
    have hS2 := hS.trans hS12
    have hl2 : H.len < H2.len := Nat.lt_of_lt_of_le hlt0 hS12.len
    have hend : ∀ {e : Int}, chk1 (prevR l j) x = e → e ≠ 0 → Post (.int .i64 e) H2 := fun h1 h2 => hPost _ _ ⟨by rw [hck, chkGo, if_neg (by rw [h1]; exact h2), h1], hS2⟩
    have hgo : chk1 (prevR l j) x = 0 → checkF l = chkGo (some x) (l.drop (j + 1)) := fun h1 => by rw [hck, chkGo, if_pos h1]
    clear hPost
    repeat' (first | (exfalso; omega) | refine zn ?_ | refine zK rfl ?_ | refine zP rfl ?_ | ((first | refine zm ?_ | skip); intro _; intros; simp (disch := first | exact zd | fail) only [↓yS, yT, gresults, gone, ↓reduceIte, Nat.reduceEqDiff, Nat.reduceAdd, Nat.reduceMul, reduceCtorEq, Int.reduceToNat, g46, f1, f10, f11, f12, RN, hsl.ia, e1]; first | (rename_i K k; (first | refine yC (k _ _ ?_) | refine zg (k _ ?_)); clear k K) | (rename_i A B C D a b c d; (first | refine zx (a ?_) | refine zy (b ?_) | refine zz (fun hc => c ?_) (fun hc => d ?_) | refine zv (b ?_) | refine zw (a ?_)) <;> clear a b c d A B C D <;> try simp only [yL] at hc)) | refine zA ?_ | refine zB ?_ | refine zF ?_)
    rw [← hH2]
    refine Gw_s fun K' hK' => G1_call (by simp only [gtarget, ↓GArg.ev, ↓evs, ↓Tr.get_set, Nat.reduceEqDiff, if_true, if_false, ↓reduceIte, Option.map_some, f1, f10, f11, f12]; rfl) (one_of (valid_ok (s := strB x.t) (by rw [strB_size]; omega) _)) fun r3 H3 hq => hK' _ _ ?_
    obtain ⟨rfl, rfl⟩ := hq
    cases hv1 : vldB (strB x.t) with
    | false =>
      repeat' (first | (exfalso; omega) | refine zn ?_ | refine zK rfl ?_ | refine zP rfl ?_ | ((first | refine zm ?_ | skip); intro _; intros; simp (disch := first | exact zd | fail) only [↓yS, yT, gresults, gone, ↓reduceIte, Nat.reduceEqDiff, Nat.reduceAdd, Nat.reduceMul, reduceCtorEq, Int.reduceToNat, g46, f1, f10, f11, f12]; first | (rename_i K k; (first | refine yC (k _ _ ?_) | refine zg (k _ ?_)); clear k K) | (rename_i A B C D a b c d; (first | refine zx (a ?_) | refine zy (b ?_) | refine zz (fun hc => c ?_) (fun hc => d ?_) | refine zv (b ?_) | refine zw (a ?_)) <;> clear a b c d A B C D <;> try simp only [yL] at hc)) | refine zA ?_ | refine zB ?_ | refine zF ?_)
      exact hend (by unfold chk1 vR; rw [hv1, if_pos rfl]) (by decide)
    | true =>
      have c1 : ¬ vR x = false := by unfold vR; rw [hv1]; decide
      repeat' (first | (exfalso; omega) | refine zn ?_ | refine zK rfl ?_ | refine zP rfl ?_ | ((first | refine zm ?_ | skip); intro _; intros; simp (disch := first | exact zd | fail) only [↓yS, yT, gresults, gone, ↓reduceIte, Nat.reduceEqDiff, Nat.reduceAdd, Nat.reduceMul, reduceCtorEq, Int.reduceToNat, g46, f1, f10, f11, f12, RN, x0, x3]; first | (rename_i K k; (first | refine yC (k _ _ ?_) | refine zg (k _ ?_)); clear k K) | (rename_i A B C D a b c d; (first | refine zx (a ?_) | refine zy (b ?_) | refine zz (fun hc => c ?_) (fun hc => d ?_) | refine zv (b ?_) | refine zw (a ?_)) <;> clear a b c d A B C D <;> try simp only [yL] at hc)) | refine zA ?_ | refine zB ?_ | refine zF ?_)
      case refine_1 => exact hend (by unfold chk1; rw [if_neg c1, if_pos hc]) (by decide)
      case' refine_2 => have c2 : ¬ x.t = [] := hc
      refine Gw_s fun K' hK' => G1_call (by simp only [gtarget, ↓GArg.ev, ↓evs, ↓Tr.get_set, Nat.reduceEqDiff, if_true, if_false, ↓reduceIte, Option.map_some, f1, f10, f11, f12]; rfl) (one_of (Valid_ok x.s _)) fun r4 H4 hq => hK' _ _ ?_
      obtain ⟨rfl, rfl⟩ := hq
      cases hv2 : okS x.s with
      | false =>
        repeat' (first | (exfalso; omega) | refine zn ?_ | refine zK rfl ?_ | refine zP rfl ?_ | ((first | refine zm ?_ | skip); intro _; intros; simp (disch := first | exact zd | fail) only [↓yS, yT, gresults, gone, ↓reduceIte, Nat.reduceEqDiff, Nat.reduceAdd, Nat.reduceMul, reduceCtorEq, Int.reduceToNat, g46, f1, f10, f11, f12]; first | (rename_i K k; (first | refine yC (k _ _ ?_) | refine zg (k _ ?_)); clear k K) | (rename_i A B C D a b c d; (first | refine zx (a ?_) | refine zy (b ?_) | refine zz (fun hc => c ?_) (fun hc => d ?_) | refine zv (b ?_) | refine zw (a ?_)) <;> clear a b c d A B C D <;> try simp only [yL] at hc)) | refine zA ?_ | refine zB ?_ | refine zF ?_)
        exact hend (by unfold chk1; rw [if_neg c1, if_neg c2, hv2, if_pos rfl]) (by decide)
      | true =>
        have c3 : ¬ okS x.s = false := by rw [hv2]; decide
        repeat' (first | (exfalso; omega) | refine zn ?_ | refine zK rfl ?_ | refine zP rfl ?_ | ((first | refine zm ?_ | skip); intro _; intros; simp (disch := first | exact zd | fail) only [↓yS, yT, gresults, gone, ↓reduceIte, Nat.reduceEqDiff, Nat.reduceAdd, Nat.reduceMul, reduceCtorEq, Int.reduceToNat, g46, f1, f10, f11, f12, x4]; first | (rename_i K k; (first | refine yC (k _ _ ?_) | refine zg (k _ ?_)); clear k K) | (rename_i A B C D a b c d; (first | refine zx (a ?_) | refine zy (b ?_) | refine zz (fun hc => c ?_) (fun hc => d ?_) | refine zv (b ?_) | refine zw (a ?_)) <;> clear a b c d A B C D <;> try simp only [yL] at hc)) | refine zA ?_ | refine zB ?_ | refine zF ?_)
        refine Gw_s fun K' hK' => G1_call (by simp only [gtarget, ↓GArg.ev, ↓evs, ↓Tr.get_set, Nat.reduceEqDiff, if_true, if_false, ↓reduceIte, Option.map_some, f1, f10, f11, f12]; rfl) (one_of (valid_ok (s := strB x.y) (by rw [strB_size]; omega) _)) fun r5 H5 hq => hK' _ _ ?_
        obtain ⟨rfl, rfl⟩ := hq
        cases hv3 : vldB (strB x.y) with
        | false =>
          repeat' (first | (exfalso; omega) | refine zn ?_ | refine zK rfl ?_ | refine zP rfl ?_ | ((first | refine zm ?_ | skip); intro _; intros; simp (disch := first | exact zd | fail) only [↓yS, yT, gresults, gone, ↓reduceIte, Nat.reduceEqDiff, Nat.reduceAdd, Nat.reduceMul, reduceCtorEq, Int.reduceToNat, g46, f1, f10, f11, f12]; first | (rename_i K k; (first | refine yC (k _ _ ?_) | refine zg (k _ ?_)); clear k K) | (rename_i A B C D a b c d; (first | refine zx (a ?_) | refine zy (b ?_) | refine zz (fun hc => c ?_) (fun hc => d ?_) | refine zv (b ?_) | refine zw (a ?_)) <;> clear a b c d A B C D <;> try simp only [yL] at hc)) | refine zA ?_ | refine zB ?_ | refine zF ?_)
          exact hend (by unfold chk1; rw [if_neg c1, if_neg c2, if_neg c3]; unfold yR; rw [hv3, if_pos rfl]) (by decide)
        | true =>
          have c4 : ¬ yR x = false := by unfold yR; rw [hv3]; decide
          cases j with
          | zero =>
            have h0 : chk1 (prevR l 0) x = 0 := by unfold chk1; rw [if_neg c1, if_neg c2, if_neg c3, if_neg c4]; rfl
            repeat' (first | (exfalso; omega) | refine zn ?_ | refine zK rfl ?_ | refine zP rfl ?_ | ((first | refine zm ?_ | skip); intro _; intros; simp (disch := first | exact zd | fail) only [↓yS, yT, gresults, gone, ↓reduceIte, Nat.reduceEqDiff, Nat.reduceAdd, Nat.reduceMul, reduceCtorEq, Int.reduceToNat, g46, f1, f10, f11, f12]; first | (rename_i K k; (first | refine yC (k _ _ ?_) | refine zg (k _ ?_)); clear k K) | (rename_i A B C D a b c d; (first | refine zx (a ?_) | refine zy (b ?_) | refine zz (fun hc => c ?_) (fun hc => d ?_) | refine zv (b ?_) | refine zw (a ?_)) <;> clear a b c d A B C D <;> try simp only [yL] at hc)) | refine zA ?_ | refine zB ?_ | refine zF ?_)
            refine hJ _ _ ⟨l.length - (0 + 1), by omega, 0 + 1, rfl, by omega, ?_⟩
            simp only [↓yG, Nat.reduceEqDiff, ↓reduceIte, Int.natCast_add, Int.cast_ofNat_Int, Int.natCast_zero, true_and, and_true, Option.some.injEq, Value.int.injEq, f1, f10, f11]
            exact ⟨hS2, hr2, hl2, by rw [hpn]; exact hgo h0⟩
          | succ i =>
            have hvl2 := hv.later hw hS2
            have e2 := hvl2.rowN (k := i) (by omega)
            have e3 := hvl2.sy (k := i) (by omega)
            have e4 : H5.rd (blk v) (ofs v + i * 5 + 4) = some (.string (strB l[i]!.y)) := hvl2.row (k := i) (c := 4) (by omega) (by decide)
            have hi1 : (((i + 1 : Nat) : Int) - 1).toNat = i := by omega
            have hpp : prevR l (i + 1) = some l[i]! := rfl
            rw [hpp] at hend hgo
            generalize l[i]! = z at *
            have hend8 : alikeF z x = true → Post (.int .i64 8) H5 := fun h => hend (by unfold chk1; rw [if_neg c1, if_neg c2, if_neg c3, if_neg c4]; simp only; rw [if_pos h]) (by decide)
            have hgo8 : ¬ alikeF z x = true → checkF l = chkGo (some x) (l.drop (i + 1 + 1)) := fun h => hgo (by unfold chk1; rw [if_neg c1, if_neg c2, if_neg c3, if_neg c4]; simp only; rw [if_neg h])
            repeat' (first | (exfalso; omega) | refine zn ?_ | refine zK rfl ?_ | refine zP rfl ?_ | ((first | refine zm ?_ | skip); intro _; intros; simp (disch := first | exact zd | fail) only [↓yS, yT, gresults, gone, ↓reduceIte, Nat.reduceEqDiff, Nat.reduceAdd, Nat.reduceMul, reduceCtorEq, Int.reduceToNat, g46, f1, f10, f11, f12, RN, hr2, hsl.ia, hi1, e2, e3, e4, x5, x3, x4]; first | (rename_i K k; (first | refine yC (k _ _ ?_) | refine zg (k _ ?_)); clear k K) | (rename_i A B C D a b c d; (first | refine zx (a ?_) | refine zy (b ?_) | refine zz (fun hc => c ?_) (fun hc => d ?_) | refine zv (b ?_) | refine zw (a ?_)) <;> clear a b c d A B C D <;> try simp only [yL] at hc)) | refine zA ?_ | refine zB ?_ | refine zF ?_)
            intro K' hK'; refine G1_call (by simp only [gtarget, ↓GArg.ev, ↓evs, ↓Tr.get_set, Nat.reduceEqDiff, if_true, if_false, ↓reduceIte, Option.map_some, f1, f10, f11, f12]; rfl) (one_of (alike_ok z x _)) fun r6 H6 hq => hK' _ _ ?_
            obtain ⟨rfl, rfl⟩ := hq
            cases hal : alikeF z x with
            | true =>
              repeat' (first | (exfalso; omega) | refine zn ?_ | refine zK rfl ?_ | refine zP rfl ?_ | ((first | refine zm ?_ | skip); intro _; intros; simp (disch := first | exact zd | fail) only [↓yS, yT, gresults, gone, ↓reduceIte, Nat.reduceEqDiff, Nat.reduceAdd, Nat.reduceMul, reduceCtorEq, Int.reduceToNat, g46, f1, f10, f11, f12]; first | (rename_i K k; (first | refine yC (k _ _ ?_) | refine zg (k _ ?_)); clear k K) | (rename_i A B C D a b c d; (first | refine zx (a ?_) | refine zy (b ?_) | refine zz (fun hc => c ?_) (fun hc => d ?_) | refine zv (b ?_) | refine zw (a ?_)) <;> clear a b c d A B C D <;> try simp only [yL] at hc)) | refine zA ?_ | refine zB ?_ | refine zF ?_)
              exact hend8 hal
            | false =>
              repeat' (first | (exfalso; omega) | refine zn ?_ | refine zK rfl ?_ | refine zP rfl ?_ | ((first | refine zm ?_ | skip); intro _; intros; simp (disch := first | exact zd | fail) only [↓yS, yT, gresults, gone, ↓reduceIte, Nat.reduceEqDiff, Nat.reduceAdd, Nat.reduceMul, reduceCtorEq, Int.reduceToNat, g46, f1, f10, f11, f12]; first | (rename_i K k; (first | refine yC (k _ _ ?_) | refine zg (k _ ?_)); clear k K) | (rename_i A B C D a b c d; (first | refine zx (a ?_) | refine zy (b ?_) | refine zz (fun hc => c ?_) (fun hc => d ?_) | refine zv (b ?_) | refine zw (a ?_)) <;> clear a b c d A B C D <;> try simp only [yL] at hc)) | refine zA ?_ | refine zB ?_ | refine zF ?_)
              refine hJ _ _ ⟨l.length - (i + 1 + 1), by omega, i + 1 + 1, rfl, by omega, ?_⟩
              simp only [↓yG, Nat.reduceEqDiff, ↓reduceIte, Int.natCast_add, Int.cast_ofNat_Int, Int.natCast_zero, true_and, and_true, Option.some.injEq, Value.int.injEq, f1, f10, f11]
              exact ⟨hS2, hr2, hl2, by rw [hpn]; exact hgo8 (by rw [hal]; decide)⟩
  · obtain rfl : j = l.length := by omega
    rw [List.drop_length] at hck
    repeat' (first | (exfalso; omega) | refine zn ?_ | refine zK rfl ?_ | refine zP rfl ?_ | ((first | refine zm ?_ | skip); intro _; intros; simp (disch := first | exact zd | fail) only [↓yS, yT, gresults, gone, ↓reduceIte, Nat.reduceEqDiff, Nat.reduceAdd, Nat.reduceMul, reduceCtorEq, Int.reduceToNat, g46, f1, f10, f11, f12]; first | (rename_i K k; (first | refine yC (k _ _ ?_) | refine zg (k _ ?_)); clear k K) | (rename_i A B C D a b c d; (first | refine zx (a ?_) | refine zy (b ?_) | refine zz (fun hc => c ?_) (fun hc => d ?_) | refine zv (b ?_) | refine zw (a ?_)) <;> clear a b c d A B C D <;> try simp only [yL] at hc)) | refine zA ?_ | refine zB ?_ | refine zF ?_)
    exact hPost _ _ ⟨by rw [hck]; rfl, hS⟩
end Go.Gh
