/-
  style, walked: Parse.
-/
import Derived.Test.YtgbibkkcnkaelaaDoorSyT8
namespace Go.Gh
set_option linter.unusedSimpArgs false
set_option linter.unusedVariables false
open Go.RowKit
set_option maxRecDepth 4000

def goodX (x : SR) : Prop := x.t.length ≤ 134217728 ∧ x.y.length ≤ 134217728 ∧ 0 ≤ x.s.c
def preI (l : List UInt8) : Sy × List UInt8 × List UInt8 :=
  match l with
  | [] => (⟨0, false, false⟩, [], [])
  | b :: r => if b = 123 then tagI r else (⟨0, false, false⟩, [], b :: r)
theorem stepI_pre {l : List UInt8} (h : l ≠ []) : stepI l = (⟨(untP eB (preI l).2.2).1, (preI l).1, (preI l).2.1⟩, (untP eB (preI l).2.2).2) := by
  cases l with
  | nil => exact absurd rfl h
  | cons b r =>
    simp only [stepI, preI]
    split <;> rfl
theorem preI_len (l : List UInt8) : (preI l).2.1.length + (preI l).2.2.length ≤ l.length := by
  cases l with
  | nil => simp [preI]
  | cons b r =>
    have := tagI_len r
    simp only [preI]
    split
    · simp only [List.length_cons]; omega
    · simp
theorem preI_c (l : List UInt8) : 0 ≤ (preI l).1.c := by
  cases l with
  | nil => simp [preI]
  | cons b r =>
    simp only [preI]
    split
    · unfold tagI
      simp only
      split <;> exact Int.natCast_nonneg _
    · simp
theorem stepI_good {l : List UInt8} (h : l ≠ []) (hl : l.length ≤ 134217728) : goodX (stepI l).1 := by
  have h1 := preI_len l
  have h2 := untP_len (e := eB) _ (preI l).2.2 (Nat.le_refl _)
  have h3 := preI_c l
  rw [stepI_pre h]
  exact ⟨by simp only; omega, by simp only; omega, h3⟩
theorem textB_bound {B : Nat} : ∀ {l : List SR}, (∀ x ∈ l, x.t.length ≤ B ∧ x.y.length ≤ B) → (textB l).length ≤ l.length * (4 * B + 11) := by
  have hr : ∀ x : SR, x.t.length ≤ B ∧ x.y.length ≤ B → (runT x).length ≤ 4 * B + 11 := fun x h => by
    have h1 := runT_len x
    have h2 := tagB_len x
    have h3 := esc_le2 x.t
    have h4 := esc_le2 x.y
    omega
  have hf : ∀ l : List SR, (∀ x ∈ l, x.t.length ≤ B ∧ x.y.length ≤ B) → (l.flatMap runT).length ≤ l.length * (4 * B + 11) := fun l => by
    induction l with
    | nil => intro _; simp
    | cons x l ih =>
      intro h
      have h1 := ih fun z hz => h z (by simp [hz])
      have h2 := hr x (h x (by simp))
      rw [List.flatMap_cons, List.length_append, List.length_cons, Nat.add_mul]
      omega
  intro l h
  cases l with
  | nil => simp [textB]
  | cons x l =>
    have h1 := hf l fun z hz => h z (by simp [hz])
    have h2 := hr x (h x (by simp))
    have h3 : (run0 x).length ≤ (runT x).length := by
      unfold run0
      split
      · rw [runT_len]; omega
      · exact Nat.le_refl _
    rw [textB, List.length_append, List.length_cons, Nat.add_mul]
    omega
theorem good_text {l : List SR} (h : ∀ x ∈ l, goodX x) (hc : checkF l = 0) : (textB l).length < 140737488355328 := by
  have h1 := textB_bound (B := 134217728) fun x hx => ⟨(h x hx).1, (h x hx).2.1⟩
  have h2 := (check_ok' hc).1
  have h3 := Nat.mul_le_mul_right (4 * 134217728 + 11) h2
  omega
theorem good_sh {l : List SR} (h : ∀ x ∈ l, goodX x) : ShR l := fun x hx => by
  have := h x hx
  unfold goodX at this
  omega
/-- what Parse answers -/
def resF (o : Option (List SR)) (s : List UInt8) : Option (List SR) := o.bind fun l => if checkF l = 0 ∧ textB l = s then some l else none
theorem OS.put_u {s u n i u' : Nat} {H0 H : GHeap} {v : Value} {xs c c' : List Value} (h : OS s u H0 H v n xs) (hm : H.mine i = some (c, u')) (hi : H0.len ≤ i) (hu : u ≠ u') : OS s u H0 (H.put i (.cells c' u' true)) v n xs := by
  have hw := h.same.wf
  refine h.but (S := fun z => z = i) ((But.refl (S := fun z => z = i) hw).put rfl (mine_lt hw hm) _) (fun z hz e => by omega) fun a ha e => ?_
  have := (h.ids ha).2.2
  rw [e, hm] at this
  simp only [Option.some.injEq, Prod.mk.injEq] at this
  exact hu this.2.symm
theorem not_id {s u n i u' : Nat} {H0 H : GHeap} {v : Value} {xs c : List Value} (h : OS s u H0 H v n xs) (hm : H.mine i = some (c, u')) (hu : u ≠ u') : ¬ i ∈ idOf v := fun ha => by
  have := (h.ids ha).2.2
  rw [hm] at this
  simp only [Option.some.injEq, Prod.mk.injEq] at this
  exact hu this.2.symm
set_option maxHeartbeats 1000000 in
theorem Parse_ok {H : GHeap} (hw : H.wf) {s : List UInt8} (hs : s.length ≤ 134217728) :
    ∃ r H', gev G 24 [.string (strB s)] H = some (r, H') ∧ ∃ w, r = .tuple #[rowV w, .int .i64 (if (resF (loopI s.length [] s) s).isSome then 0 else 4)] ∧ OR H H' w ((resF (loopI s.length [] s) s).getD []) := by
  refine gev_GW (f := 24) rfl fun Post hPost => ?_
  have hP0 : ∀ w H', resF (loopI s.length [] s) s = none → OR H H' w [] → Post (.tuple #[rowV w, .int .i64 4]) H' := fun w H' e h => by
    refine hPost _ _ ⟨w, ?_, ?_⟩ <;> rw [e]
    · rfl
    · exact h
  have hP1 : ∀ w H' l, resF (loopI s.length [] s) s = some l → OR H H' w l → Post (.tuple #[rowV w, .int .i64 0]) H' := fun w H' l e h => by
    refine hPost _ _ ⟨w, ?_, ?_⟩ <;> rw [e]
    · rfl
    · exact h
  clear hPost
  generalize hR : loopI s.length [] s = R at *
  have hlim := hw.1
  simp only [frameOf, Nat.reduceAdd]
  repeat' (first | refine zA ?_ | refine zB ?_ | refine zC ?_ | refine zD ?_ | refine zE ?_ | refine zF ?_ | refine zG ?_ | refine zH ?_ | refine zI ?_ | refine zJ ?_ | refine zK rfl ?_ | refine zL ?_ | refine zM ?_ | refine zN ?_ | refine zO ?_ | refine zP rfl ?_ | refine zQ ?_ | ((first | refine zR ?_ | refine zS ?_ | refine zT ?_ | skip); intro K k; simp (disch := (first | (simp only [yD2, beq_self_eq_true, Nat.reduceLT, Nat.reduceAdd]; done) | ((fail_if_success (apply Bool.eq_iff_iff.2)); first | omega | (simp only [yD2, beq_self_eq_true, Nat.reduceLT, Nat.reduceAdd] <;> omega)) | fail)) only [↓yS, yT, ↓reduceIte, Nat.reduceEqDiff, Nat.reduceAdd, Nat.reduceMul, reduceCtorEq, Int.reduceToNat, g24]; refine yC (k _ _ ?_); clear k K) | ((first | refine zU ?_ | refine zV ?_ | refine zW ?_); intro A B C D a b c d; simp only [↓yG, Nat.reduceEqDiff, ↓reduceIte, g24]; (first | refine zX (a ?_) | refine zY (b ?_) | refine zZ (fun hc => c ?_) (fun hc => d ?_)) <;> clear a b c d A B C D <;> try simp only [yL] at hc) | (refine yA ?_; intro A a; simp only [↓yG, Nat.reduceEqDiff, ↓reduceIte, g24]; refine yB (a ?_); clear a A) | (refine yD ?_; simp only [gresults, ↓yG, Nat.reduceEqDiff, ↓reduceIte, Option.bind_some, gld_1, gld_n, g24]; refine ⟨_, rfl, ?_⟩; simp only [gone]))
  have hSb : Same H ((H.add (some (.cells [.slice none 0 0] 0 true))).add (some (.cells [.slice none 0 0] 0 true))) := ((Same.refl hw).add _).add _
  have n0 : ((H.add (some (.cells [.slice none 0 0] 0 true))).add (some (.cells [.slice none 0 0] 0 true))).mine H.len = some ([.slice none 0 0], 0) := by
    rw [mine_add_ne (by rw [len_add]; omega), mine_add_eq rfl hlim]
  have n1 : ((H.add (some (.cells [.slice none 0 0] 0 true))).add (some (.cells [.slice none 0 0] 0 true))).mine (H.len + 1) = some ([.slice none 0 0], 0) := by
    rw [mine_add_eq (by rw [len_add]) (by rw [lim_add]; omega)]
  generalize (H.add (some (.cells [.slice none 0 0] 0 true))).add (some (.cells [.slice none 0 0] 0 true)) = Hb at *
  refine GW_loop (fun k fr H1 => ∃ (q : List UInt8) (w : Value) (out : List SR), q.length ≤ k ∧ q.length ≤ s.length ∧ fr.get 0 = some (.string (strB s)) ∧ fr.get 2 = some (.pointer (some ⟨H.len, 0, none⟩)) ∧ fr.get 4 = some (.pointer (some ⟨H.len + 1, 0, none⟩)) ∧ fr.get 5 = some (.string (strB q)) ∧ H1.mine H.len = some ([.slice none 0 0], 0) ∧ H1.mine (H.len + 1) = some ([w], 0) ∧ OR H H1 w out ∧ loopI k out q = R ∧ out.length ≤ 16 ∧ ∀ x ∈ out, goodX x) ?_ s.length ?_
  case refine_2 =>
    refine ⟨s, .slice none 0 0, [], by omega, by omega, ?_⟩
    simp only [↓yG, Nat.reduceEqDiff, ↓reduceIte, Int.natCast_add, Int.cast_ofNat_Int, Int.natCast_zero, true_and, and_true, Option.some.injEq, Value.int.injEq]
    exact ⟨n0, n1, OS.nil hSb, hR, by simp, by simp⟩
  clear n0 n1
  rintro k fr H1 ⟨q, w, out, hqk, hqs, f0, f2, f4, f5, m0, m1, hO, hL, ho, hg⟩ J hJ
  have hS := hO.same
  have hw1 := hS.wf
  have hlim1 := hw1.1
  have hl0 := mine_lt hw1 m0
  have hl1 := mine_lt hw1 m1
  by_cases hq : q = []
  · subst hq
    have hL' : R = some out := by rw [← hL]; cases k <;> rfl
    have r1 : H1.rdn (H.len + 1) 0 1 = some (rowV w) := by
      simp only [GHeap.rdn, mine_cs m1, Option.bind_some]; rfl
    have hyt := eq_true (show ([] : List UInt8) = [] from rfl)
    repeat' (first | (exfalso; omega) | refine zA ?_ | refine zB ?_ | refine zC ?_ | refine zD ?_ | refine zE ?_ | refine zF ?_ | refine zG ?_ | refine zH ?_ | refine zI ?_ | refine zJ ?_ | refine zK rfl ?_ | refine zL ?_ | refine zM ?_ | refine zN ?_ | refine zO ?_ | refine zP rfl ?_ | refine zQ ?_ | ((first | refine zR ?_ | refine zS ?_ | refine zT ?_ | skip); intro K k; simp (disch := (first | (simp only [yD2, beq_self_eq_true, Nat.reduceLT, Nat.reduceAdd]; done) | ((fail_if_success (apply Bool.eq_iff_iff.2)); first | omega | (simp only [yD2, beq_self_eq_true, Nat.reduceLT, Nat.reduceAdd] <;> omega)) | fail)) only [↓yS, yT, ↓reduceIte, Nat.reduceEqDiff, Nat.reduceAdd, Nat.reduceMul, reduceCtorEq, Int.reduceToNat, g24, f0, f2, f4, f5, gb_neE, hyt, not_true_eq_false, decide_false, r1]; refine yC (k _ _ ?_); clear k K) | ((first | refine zU ?_ | refine zV ?_ | refine zW ?_); intro A B C D a b c d; simp only [↓yG, Nat.reduceEqDiff, ↓reduceIte, g24, f0, f2, f4, f5, gb_neE, hyt, not_true_eq_false, decide_false, r1]; (first | refine zX (a ?_) | refine zY (b ?_) | refine zZ (fun hc => c ?_) (fun hc => d ?_)) <;> clear a b c d A B C D <;> try simp only [yL] at hc) | (refine yA ?_; intro A a; simp only [↓yG, Nat.reduceEqDiff, ↓reduceIte, g24, f0, f2, f4, f5, gb_neE, hyt, not_true_eq_false, decide_false, r1]; refine yB (a ?_); clear a A) | (refine yD ?_; simp only [gresults, ↓yG, Nat.reduceEqDiff, ↓reduceIte, Option.bind_some, gld_1, gld_n, g24, f0, f2, f4, f5, gb_neE, hyt, not_true_eq_false, decide_false, r1]; refine ⟨_, rfl, ?_⟩; simp only [gone]))
    refine Gw_s fun K' hK' => G1_call (by simp only [gtarget, ↓GArg.ev, ↓evs, ↓Tr.get_set, Nat.reduceEqDiff, if_true, if_false, ↓reduceIte, Option.map_some, f0, f2, f4, f5]; rfl) (text_ok hw1 hO.rr (by omega) (good_sh hg) (fun x hx => (hg x hx).2.2) (good_text hg)) fun r2 H2 hq2 => hK' _ _ ?_
    obtain ⟨rfl, hS2⟩ := hq2
    have m0' : H2.mine H.len = some ([.slice none 0 0], 0) := by rw [hS2.mine hl0]; exact m0
    have m1' : H2.mine (H.len + 1) = some ([w], 0) := by rw [hS2.mine hl1]; exact m1
    have r1' : H2.rdn (H.len + 1) 0 1 = some (rowV w) := by
      simp only [GHeap.rdn, mine_cs m1', Option.bind_some]; rfl
    have hO2 := hO.later hS2
    have hneq := fun e a b => gb_neqB (e := e) (a := a) (b := b)
    have hOn : OR H H2 (.slice none 0 0) [] := OS.nil (hS.trans hS2)
    obtain ⟨a1, a2, a3⟩ := OR.res hO2 m0' rfl (Nat.le_refl _)
    obtain ⟨b1, b2, b3⟩ := OR.res hOn m0' rfl (Nat.le_refl _)
    have hbad : ¬ (checkF out = 0 ∧ textB out = s) → resF R s = none := fun h => by rw [hL']; exact if_neg h
    have hzr : rowV (.slice none 0 0) = .agg #[.slice none 0 0] := rfl
    rw [hzr] at b1 b3
    by_cases hc : checkF out = 0
    · rw [if_pos hc, hc]
      by_cases ht : textB out = s
      · have hgood : resF R s = some out := by rw [hL']; exact if_pos ⟨hc, ht⟩
        have hyt2 : (¬ textB out = s) = False := by simp [ht]
        repeat' (first | (exfalso; omega) | refine zA ?_ | refine zB ?_ | refine zC ?_ | refine zD ?_ | refine zE ?_ | refine zF ?_ | refine zG ?_ | refine zH ?_ | refine zI ?_ | refine zJ ?_ | refine zK rfl ?_ | refine zL ?_ | refine zM ?_ | refine zN ?_ | refine zO ?_ | refine zP rfl ?_ | refine zQ ?_ | ((first | refine zR ?_ | refine zS ?_ | refine zT ?_ | skip); intro K k; simp (disch := (first | (simp only [yD2, beq_self_eq_true, Nat.reduceLT, Nat.reduceAdd]; done) | ((fail_if_success (apply Bool.eq_iff_iff.2)); first | omega | (simp only [yD2, beq_self_eq_true, Nat.reduceLT, Nat.reduceAdd] <;> omega)) | fail)) only [↓yS, yT, ↓reduceIte, Nat.reduceEqDiff, Nat.reduceAdd, Nat.reduceMul, reduceCtorEq, Int.reduceToNat, g24, f0, f2, f4, f5, hneq, hyt2, decide_false, r1', a1, a3]; refine yC (k _ _ ?_); clear k K) | ((first | refine zU ?_ | refine zV ?_ | refine zW ?_); intro A B C D a b c d; simp only [↓yG, Nat.reduceEqDiff, ↓reduceIte, g24, f0, f2, f4, f5, hneq, hyt2, decide_false, r1', a1, a3]; (first | refine zX (a ?_) | refine zY (b ?_) | refine zZ (fun hc => c ?_) (fun hc => d ?_)) <;> clear a b c d A B C D <;> try simp only [yL] at hc) | (refine yA ?_; intro A a; simp only [↓yG, Nat.reduceEqDiff, ↓reduceIte, g24, f0, f2, f4, f5, hneq, hyt2, decide_false, r1', a1, a3]; refine yB (a ?_); clear a A) | (refine yD ?_; simp only [gresults, ↓yG, Nat.reduceEqDiff, ↓reduceIte, Option.bind_some, gld_1, gld_n, g24, f0, f2, f4, f5, hneq, hyt2, decide_false, r1', a1, a3]; refine ⟨_, rfl, ?_⟩; simp only [gone]))
        exact hP1 _ _ _ hgood a2
      · have hyt2 : (¬ textB out = s) = True := by simp [ht]
        repeat' (first | (exfalso; omega) | refine zA ?_ | refine zB ?_ | refine zC ?_ | refine zD ?_ | refine zE ?_ | refine zF ?_ | refine zG ?_ | refine zH ?_ | refine zI ?_ | refine zJ ?_ | refine zK rfl ?_ | refine zL ?_ | refine zM ?_ | refine zN ?_ | refine zO ?_ | refine zP rfl ?_ | refine zQ ?_ | ((first | refine zR ?_ | refine zS ?_ | refine zT ?_ | skip); intro K k; simp (disch := (first | (simp only [yD2, beq_self_eq_true, Nat.reduceLT, Nat.reduceAdd]; done) | ((fail_if_success (apply Bool.eq_iff_iff.2)); first | omega | (simp only [yD2, beq_self_eq_true, Nat.reduceLT, Nat.reduceAdd] <;> omega)) | fail)) only [↓yS, yT, ↓reduceIte, Nat.reduceEqDiff, Nat.reduceAdd, Nat.reduceMul, reduceCtorEq, Int.reduceToNat, g24, f0, f2, f4, f5, hneq, hyt2, decide_true, b1, b3]; refine yC (k _ _ ?_); clear k K) | ((first | refine zU ?_ | refine zV ?_ | refine zW ?_); intro A B C D a b c d; simp only [↓yG, Nat.reduceEqDiff, ↓reduceIte, g24, f0, f2, f4, f5, hneq, hyt2, decide_true, b1, b3]; (first | refine zX (a ?_) | refine zY (b ?_) | refine zZ (fun hc => c ?_) (fun hc => d ?_)) <;> clear a b c d A B C D <;> try simp only [yL] at hc) | (refine yA ?_; intro A a; simp only [↓yG, Nat.reduceEqDiff, ↓reduceIte, g24, f0, f2, f4, f5, hneq, hyt2, decide_true, b1, b3]; refine yB (a ?_); clear a A) | (refine yD ?_; simp only [gresults, ↓yG, Nat.reduceEqDiff, ↓reduceIte, Option.bind_some, gld_1, gld_n, g24, f0, f2, f4, f5, hneq, hyt2, decide_true, b1, b3]; refine ⟨_, rfl, ?_⟩; simp only [gone]))
        exact hP0 _ _ (hbad fun h => ht h.2) b2
    · repeat' (first | (exfalso; omega) | refine zA ?_ | refine zB ?_ | refine zC ?_ | refine zD ?_ | refine zE ?_ | refine zF ?_ | refine zG ?_ | refine zH ?_ | refine zI ?_ | refine zJ ?_ | refine zK rfl ?_ | refine zL ?_ | refine zM ?_ | refine zN ?_ | refine zO ?_ | refine zP rfl ?_ | refine zQ ?_ | ((first | refine zR ?_ | refine zS ?_ | refine zT ?_ | skip); intro K k; simp (disch := (first | (simp only [yD2, beq_self_eq_true, Nat.reduceLT, Nat.reduceAdd]; done) | ((fail_if_success (apply Bool.eq_iff_iff.2)); first | omega | (simp only [yD2, beq_self_eq_true, Nat.reduceLT, Nat.reduceAdd] <;> omega)) | fail)) only [↓yS, yT, ↓reduceIte, Nat.reduceEqDiff, Nat.reduceAdd, Nat.reduceMul, reduceCtorEq, Int.reduceToNat, g24, f0, f2, f4, f5, b1, b3]; refine yC (k _ _ ?_); clear k K) | ((first | refine zU ?_ | refine zV ?_ | refine zW ?_); intro A B C D a b c d; simp only [↓yG, Nat.reduceEqDiff, ↓reduceIte, g24, f0, f2, f4, f5, b1, b3]; (first | refine zX (a ?_) | refine zY (b ?_) | refine zZ (fun hc => c ?_) (fun hc => d ?_)) <;> clear a b c d A B C D <;> try simp only [yL] at hc) | (refine yA ?_; intro A a; simp only [↓yG, Nat.reduceEqDiff, ↓reduceIte, g24, f0, f2, f4, f5, b1, b3]; refine yB (a ?_); clear a A) | (refine yD ?_; simp only [gresults, ↓yG, Nat.reduceEqDiff, ↓reduceIte, Option.bind_some, gld_1, gld_n, g24, f0, f2, f4, f5, b1, b3]; refine ⟨_, rfl, ?_⟩; simp only [gone]))
      exact hP0 _ _ (hbad fun h => hc h.1) b2
  obtain ⟨k, rfl⟩ : ∃ m, k = m + 1 := ⟨k - 1, by have := List.length_pos_iff.2 hq; omega⟩
  have hpos := List.length_pos_iff.2 hq
  have hyt := eq_false hq
  have hsp := stepI_pre hq
  have hgs := stepI_good hq (by omega)
  have hpl := preI_len q
  have hat : ∀ k, gix none (.string (strB q)) (.int k 0) = some (.int .u8 (q[0]!.toNat : Nat)) := fun k => strB_at (l := q) (k := k) hpos
  have hL2 : R = if (stepI q).2.length = q.length ∨ 16 < out.length + 1 then none else loopI k (out ++ [(stepI q).1]) (stepI q).2 := by
    rw [← hL]
    cases q with
    | nil => exact absurd rfl hq
    | cons b r => rfl
  have hb123 : (q[0]!.toNat : Int) = 123 ↔ q[0]! = 123 := u8_eq (c := 123) (by decide)
  have hq0 : q = q[0]! :: q.tail := by
    cases q with
    | nil => exact absurd rfl hq
    | cons b r => rfl
  have hpre : preI q = if q[0]! = 123 then tagI q.tail else (⟨0, false, false⟩, [], q) := by
    cases q with
    | nil => exact absurd rfl hq
    | cons b r => rfl
  obtain ⟨hb1, hb1S, hb1m⟩ : ∃ Hb1, Hb1 = H1.add (some (.cells [.string ⟨#[]⟩, .int .u8 0, .bool false, .bool false, .string ⟨#[]⟩] 0 true)) ∧ Same H1 Hb1 := ⟨_, rfl, (Same.refl hw1).add _⟩
  have mb : hb1.mine H1.len = some (runC ⟨[], ⟨0, false, false⟩, []⟩, 0) := by rw [hb1S, mine_add_eq rfl hlim1]; rfl
  refine zA ?_
  refine zA ?_
  repeat' (first | refine zB ?_ | refine zC ?_ | refine zD ?_ | refine zE ?_ | refine zF ?_ | refine zG ?_ | refine zH ?_ | refine zI ?_ | refine zJ ?_ | refine zK rfl ?_ | refine zL ?_ | refine zM ?_ | refine zN ?_ | refine zO ?_ | refine zP rfl ?_ | refine zQ ?_ | ((first | refine zR ?_ | refine zS ?_ | refine zT ?_ | skip); intro K k; simp (disch := (first | (simp only [yD2, beq_self_eq_true, Nat.reduceLT, Nat.reduceAdd]; done) | ((fail_if_success (apply Bool.eq_iff_iff.2)); first | omega | (simp only [yD2, beq_self_eq_true, Nat.reduceLT, Nat.reduceAdd] <;> omega)) | fail)) only [↓yS, yT, ↓reduceIte, Nat.reduceEqDiff, Nat.reduceAdd, Nat.reduceMul, reduceCtorEq, Int.reduceToNat, g24, f0, f2, f4, f5, gb_neE, hyt, not_false_eq_true, decide_true]; refine yC (k _ _ ?_); clear k K) | ((first | refine zU ?_ | refine zV ?_ | refine zW ?_); intro A B C D a b c d; simp only [↓yG, Nat.reduceEqDiff, ↓reduceIte, g24, f0, f2, f4, f5, gb_neE, hyt, not_false_eq_true, decide_true]; (first | refine zX (a ?_) | refine zY (b ?_) | refine zZ (fun hc => c ?_) (fun hc => d ?_)) <;> clear a b c d A B C D <;> try simp only [yL] at hc) | (refine yA ?_; intro A a; simp only [↓yG, Nat.reduceEqDiff, ↓reduceIte, g24, f0, f2, f4, f5, gb_neE, hyt, not_false_eq_true, decide_true]; refine yB (a ?_); clear a A) | (refine yD ?_; simp only [gresults, ↓yG, Nat.reduceEqDiff, ↓reduceIte, Option.bind_some, gld_1, gld_n, g24, f0, f2, f4, f5, gb_neE, hyt, not_false_eq_true, decide_true]; refine ⟨_, rfl, ?_⟩; simp only [gone]))
  refine zA ?_
  repeat' (first | refine zB ?_ | refine zC ?_ | refine zD ?_ | refine zE ?_ | refine zF ?_ | refine zG ?_ | refine zH ?_ | refine zI ?_ | refine zJ ?_ | refine zK rfl ?_ | refine zL ?_ | refine zM ?_ | refine zN ?_ | refine zO ?_ | refine zP rfl ?_ | refine zQ ?_ | ((first | refine zR ?_ | refine zS ?_ | refine zT ?_ | skip); intro K k; simp (disch := (first | (simp only [yD2, beq_self_eq_true, Nat.reduceLT, Nat.reduceAdd]; done) | ((fail_if_success (apply Bool.eq_iff_iff.2)); first | omega | (simp only [yD2, beq_self_eq_true, Nat.reduceLT, Nat.reduceAdd] <;> omega)) | fail)) only [↓yS, yT, ↓reduceIte, Nat.reduceEqDiff, Nat.reduceAdd, Nat.reduceMul, reduceCtorEq, Int.reduceToNat, g24, f0, f2, f4, f5, gb_neE, hyt, not_false_eq_true, decide_true]; refine yC (k _ _ ?_); clear k K) | ((first | refine zU ?_ | refine zV ?_ | refine zW ?_); intro A B C D a b c d; simp only [↓yG, Nat.reduceEqDiff, ↓reduceIte, g24, f0, f2, f4, f5, gb_neE, hyt, not_false_eq_true, decide_true]; (first | refine zX (a ?_) | refine zY (b ?_) | refine zZ (fun hc => c ?_) (fun hc => d ?_)) <;> clear a b c d A B C D <;> try simp only [yL] at hc) | (refine yA ?_; intro A a; simp only [↓yG, Nat.reduceEqDiff, ↓reduceIte, g24, f0, f2, f4, f5, gb_neE, hyt, not_false_eq_true, decide_true]; refine yB (a ?_); clear a A) | (refine yD ?_; simp only [gresults, ↓yG, Nat.reduceEqDiff, ↓reduceIte, Option.bind_some, gld_1, gld_n, g24, f0, f2, f4, f5, gb_neE, hyt, not_false_eq_true, decide_true]; refine ⟨_, rfl, ?_⟩; simp only [gone]))
  rw [← hb1S]
  refine zA ?_
  repeat' (first | refine zB ?_ | refine zC ?_ | refine zD ?_ | refine zE ?_ | refine zF ?_ | refine zG ?_ | refine zH ?_ | refine zI ?_ | refine zJ ?_ | refine zK rfl ?_ | refine zL ?_ | refine zM ?_ | refine zN ?_ | refine zO ?_ | refine zP rfl ?_ | refine zQ ?_ | ((first | refine zR ?_ | refine zS ?_ | refine zT ?_ | skip); intro K k; simp (disch := (first | (simp only [yD2, beq_self_eq_true, Nat.reduceLT, Nat.reduceAdd]; done) | ((fail_if_success (apply Bool.eq_iff_iff.2)); first | omega | (simp only [yD2, beq_self_eq_true, Nat.reduceLT, Nat.reduceAdd] <;> omega)) | fail)) only [↓yS, yT, ↓reduceIte, Nat.reduceEqDiff, Nat.reduceAdd, Nat.reduceMul, reduceCtorEq, Int.reduceToNat, g24, f0, f2, f4, f5, strB_size]; refine yC (k _ _ ?_); clear k K) | ((first | refine zU ?_ | refine zV ?_ | refine zW ?_); intro A B C D a b c d; simp only [↓yG, Nat.reduceEqDiff, ↓reduceIte, g24, f0, f2, f4, f5, strB_size]; (first | refine zX (a ?_) | refine zY (b ?_) | refine zZ (fun hc => c ?_) (fun hc => d ?_)) <;> clear a b c d A B C D <;> try simp only [yL] at hc) | (refine yA ?_; intro A a; simp only [↓yG, Nat.reduceEqDiff, ↓reduceIte, g24, f0, f2, f4, f5, strB_size]; refine yB (a ?_); clear a A) | (refine yD ?_; simp only [gresults, ↓yG, Nat.reduceEqDiff, ↓reduceIte, Option.bind_some, gld_1, gld_n, g24, f0, f2, f4, f5, strB_size]; refine ⟨_, rfl, ?_⟩; simp only [gone]))
  obtain ⟨st, y, z, hprv⟩ : ∃ st y z, preI q = (st, y, z) := ⟨_, _, _, rfl⟩
  rw [hprv] at hpre hpl hsp
  simp only at hpl hsp
  refine GW_cut (fun fr H2 => fr.get 0 = some (.string (strB s)) ∧ fr.get 2 = some (.pointer (some ⟨H.len, 0, none⟩)) ∧ fr.get 4 = some (.pointer (some ⟨H.len + 1, 0, none⟩)) ∧ fr.get 5 = some (.string (strB z)) ∧ fr.get 6 = some (.pointer (some ⟨H1.len, 0, none⟩)) ∧ fr.get 7 = some (.int .i64 q.length) ∧ Same H1 H2 ∧ H2.mine H1.len = some (runC ⟨[], st, y⟩, 0)) ?_ ?_
  · intro J1 hJ1
    by_cases hb : q[0]! = 123
    · have hb2 := hb123.2 hb
      rw [if_pos hb] at hpre
      have htg : ∀ H, gev G 56 [.string (strB q)] H = some (.tuple #[runV ⟨[], st, y⟩, .string (strB z)], H) := fun H => by
        have := tag_ok (b0 := q[0]!) (l := q.tail) (by rw [List.length_tail]; omega) H
        rw [← hq0, ← hpre] at this
        exact this
      have e : gst (some 5) hb1 (.pointer (some ⟨H1.len, 0, none⟩)) (runV ⟨[], st, y⟩) = some (hb1.put H1.len (.cells (runC ⟨[], st, y⟩) 0 true)) := gst_new (mine_obj mb).1 (mine_obj mb).2 rfl rfl (run_cflat ⟨[], st, y⟩)
      have m2 := mine_put_same (i := H1.len) (cs := runC ⟨[], st, y⟩) (u := 0) (mine_obj mb).1
      have hS2 : Same H1 (hb1.put H1.len (.cells (runC ⟨[], st, y⟩) 0 true)) := by rw [hb1S]; exact (Same.refl hw1).new _ _
      repeat' (first | (exfalso; omega) | refine zA ?_ | refine zB ?_ | refine zC ?_ | refine zD ?_ | refine zE ?_ | refine zF ?_ | refine zG ?_ | refine zH ?_ | refine zI ?_ | refine zJ ?_ | refine zK rfl ?_ | refine zL ?_ | refine zM ?_ | refine zN ?_ | refine zO ?_ | refine zP rfl ?_ | refine zQ ?_ | ((first | refine zR ?_ | refine zS ?_ | refine zT ?_ | skip); intro K k; simp (disch := (first | (simp only [yD2, beq_self_eq_true, Nat.reduceLT, Nat.reduceAdd]; done) | ((fail_if_success (apply Bool.eq_iff_iff.2)); first | omega | (simp only [yD2, beq_self_eq_true, Nat.reduceLT, Nat.reduceAdd] <;> omega)) | fail)) only [↓yS, yT, ↓reduceIte, Nat.reduceEqDiff, Nat.reduceAdd, Nat.reduceMul, reduceCtorEq, Int.reduceToNat, g24, f0, f2, f4, f5, hat, hb2]; refine yC (k _ _ ?_); clear k K) | ((first | refine zU ?_ | refine zV ?_ | refine zW ?_); intro A B C D a b c d; simp only [↓yG, Nat.reduceEqDiff, ↓reduceIte, g24, f0, f2, f4, f5, hat, hb2]; (first | refine zX (a ?_) | refine zY (b ?_) | refine zZ (fun hc => c ?_) (fun hc => d ?_)) <;> clear a b c d A B C D <;> try simp only [yL] at hc) | (refine yA ?_; intro A a; simp only [↓yG, Nat.reduceEqDiff, ↓reduceIte, g24, f0, f2, f4, f5, hat, hb2]; refine yB (a ?_); clear a A) | (refine yD ?_; simp only [gresults, ↓yG, Nat.reduceEqDiff, ↓reduceIte, Option.bind_some, gld_1, gld_n, g24, f0, f2, f4, f5, hat, hb2]; refine ⟨_, rfl, ?_⟩; simp only [gone]))
      refine Gw_s fun K' hK' => G1_call (by simp only [gtarget, ↓GArg.ev, ↓evs, ↓Tr.get_set, Nat.reduceEqDiff, if_true, if_false, ↓reduceIte, Option.map_some, f0, f2, f4, f5]; rfl) (one_of (htg _)) fun r3 H3 hq3 => hK' _ _ ?_
      obtain ⟨rfl, rfl⟩ := hq3
      repeat' (first | (exfalso; omega) | refine zA ?_ | refine zB ?_ | refine zC ?_ | refine zD ?_ | refine zE ?_ | refine zF ?_ | refine zG ?_ | refine zH ?_ | refine zI ?_ | refine zJ ?_ | refine zK rfl ?_ | refine zL ?_ | refine zM ?_ | refine zN ?_ | refine zO ?_ | refine zP rfl ?_ | refine zQ ?_ | ((first | refine zR ?_ | refine zS ?_ | refine zT ?_ | skip); intro K k; simp (disch := (first | (simp only [yD2, beq_self_eq_true, Nat.reduceLT, Nat.reduceAdd]; done) | ((fail_if_success (apply Bool.eq_iff_iff.2)); first | omega | (simp only [yD2, beq_self_eq_true, Nat.reduceLT, Nat.reduceAdd] <;> omega)) | fail)) only [↓yS, yT, ↓reduceIte, Nat.reduceEqDiff, Nat.reduceAdd, Nat.reduceMul, reduceCtorEq, Int.reduceToNat, g24, f0, f2, f4, f5, e]; refine yC (k _ _ ?_); clear k K) | ((first | refine zU ?_ | refine zV ?_ | refine zW ?_); intro A B C D a b c d; simp only [↓yG, Nat.reduceEqDiff, ↓reduceIte, g24, f0, f2, f4, f5, e]; (first | refine zX (a ?_) | refine zY (b ?_) | refine zZ (fun hc => c ?_) (fun hc => d ?_)) <;> clear a b c d A B C D <;> try simp only [yL] at hc) | (refine yA ?_; intro A a; simp only [↓yG, Nat.reduceEqDiff, ↓reduceIte, g24, f0, f2, f4, f5, e]; refine yB (a ?_); clear a A) | (refine yD ?_; simp only [gresults, ↓yG, Nat.reduceEqDiff, ↓reduceIte, Option.bind_some, gld_1, gld_n, g24, f0, f2, f4, f5, e]; refine ⟨_, rfl, ?_⟩; simp only [gone]))
      refine hJ1 _ _ ?_
      simp only [↓yG, Nat.reduceEqDiff, ↓reduceIte, Int.natCast_add, Int.cast_ofNat_Int, Int.natCast_zero, true_and, and_true, Option.some.injEq, Value.int.injEq, f0, f2, f4, f5]
      exact ⟨hS2, m2⟩
    · have hb2 : ¬ (q[0]!.toNat : Int) = 123 := fun h => hb (hb123.1 h)
      rw [if_neg hb] at hpre
      simp only [Prod.mk.injEq] at hpre
      obtain ⟨rfl, rfl, rfl⟩ := hpre
      repeat' (first | (exfalso; omega) | refine zA ?_ | refine zB ?_ | refine zC ?_ | refine zD ?_ | refine zE ?_ | refine zF ?_ | refine zG ?_ | refine zH ?_ | refine zI ?_ | refine zJ ?_ | refine zK rfl ?_ | refine zL ?_ | refine zM ?_ | refine zN ?_ | refine zO ?_ | refine zP rfl ?_ | refine zQ ?_ | ((first | refine zR ?_ | refine zS ?_ | refine zT ?_ | skip); intro K k; simp (disch := (first | (simp only [yD2, beq_self_eq_true, Nat.reduceLT, Nat.reduceAdd]; done) | ((fail_if_success (apply Bool.eq_iff_iff.2)); first | omega | (simp only [yD2, beq_self_eq_true, Nat.reduceLT, Nat.reduceAdd] <;> omega)) | fail)) only [↓yS, yT, ↓reduceIte, Nat.reduceEqDiff, Nat.reduceAdd, Nat.reduceMul, reduceCtorEq, Int.reduceToNat, g24, f0, f2, f4, f5, hat, hb2]; refine yC (k _ _ ?_); clear k K) | ((first | refine zU ?_ | refine zV ?_ | refine zW ?_); intro A B C D a b c d; simp only [↓yG, Nat.reduceEqDiff, ↓reduceIte, g24, f0, f2, f4, f5, hat, hb2]; (first | refine zX (a ?_) | refine zY (b ?_) | refine zZ (fun hc => c ?_) (fun hc => d ?_)) <;> clear a b c d A B C D <;> try simp only [yL] at hc) | (refine yA ?_; intro A a; simp only [↓yG, Nat.reduceEqDiff, ↓reduceIte, g24, f0, f2, f4, f5, hat, hb2]; refine yB (a ?_); clear a A) | (refine yD ?_; simp only [gresults, ↓yG, Nat.reduceEqDiff, ↓reduceIte, Option.bind_some, gld_1, gld_n, g24, f0, f2, f4, f5, hat, hb2]; refine ⟨_, rfl, ?_⟩; simp only [gone]))
      refine hJ1 _ _ ?_
      simp only [↓yG, Nat.reduceEqDiff, ↓reduceIte, Int.natCast_add, Int.cast_ofNat_Int, Int.natCast_zero, true_and, and_true, Option.some.injEq, Value.int.injEq, f0, f2, f4, f5]
      exact ⟨hb1m, mb⟩
  rintro fr2 H2 ⟨p0, p2, p4, p5, p6, p7, hS12, m2⟩
  have hu := untP_len (e := eB) _ z (Nat.le_refl _)
  have hsf := untP_suf (e := eB) _ z (Nat.le_refl _)
  generalize hun : untP eB z = un at *
  obtain ⟨t, z2⟩ := un
  simp only at hu hsf hsp
  rw [hsp] at hL2 hgs
  simp only at hL2
  have hpo := plain_ok' (l := z) (by omega)
  rw [hun] at hpo
  simp only at hpo
  have e0 := gst_run m2 (n := 0) (v := .string (strB t)) (by decide) rfl rfl
  have m3 := mine_put_run m2 (runC_set0 [] st y t)
  have hw2 := hS12.wf
  have hl2 := mine_lt hw2 m2
  have hS13 : Same H1 (H2.put H1.len (.cells ((runC ⟨[], st, y⟩).set 0 (.string (strB t))) 0 true)) := hS12.put (Nat.le_refl _) hl2 _
  have hs2 : ∀ H k, gslice .str H (.string (strB z)) (some (.int k ((z.length - z2.length : Nat) : Int))) none none = some (.string (strB z2)) := fun H k => by
    rw [sl_suf (by omega) (by omega), Int.toNat_natCast, ← hsf]
  refine zA ?_
  repeat' (first | refine zB ?_ | refine zC ?_ | refine zD ?_ | refine zE ?_ | refine zF ?_ | refine zG ?_ | refine zH ?_ | refine zI ?_ | refine zJ ?_ | refine zK rfl ?_ | refine zL ?_ | refine zM ?_ | refine zN ?_ | refine zO ?_ | refine zP rfl ?_ | refine zQ ?_ | ((first | refine zR ?_ | refine zS ?_ | refine zT ?_ | skip); intro K k; simp (disch := (first | (simp only [yD2, beq_self_eq_true, Nat.reduceLT, Nat.reduceAdd]; done) | ((fail_if_success (apply Bool.eq_iff_iff.2)); first | omega | (simp only [yD2, beq_self_eq_true, Nat.reduceLT, Nat.reduceAdd] <;> omega)) | fail)) only [↓yS, yT, ↓reduceIte, Nat.reduceEqDiff, Nat.reduceAdd, Nat.reduceMul, reduceCtorEq, Int.reduceToNat, g24, p0, p2, p4, p5, p6, p7]; refine yC (k _ _ ?_); clear k K) | ((first | refine zU ?_ | refine zV ?_ | refine zW ?_); intro A B C D a b c d; simp only [↓yG, Nat.reduceEqDiff, ↓reduceIte, g24, p0, p2, p4, p5, p6, p7]; (first | refine zX (a ?_) | refine zY (b ?_) | refine zZ (fun hc => c ?_) (fun hc => d ?_)) <;> clear a b c d A B C D <;> try simp only [yL] at hc) | (refine yA ?_; intro A a; simp only [↓yG, Nat.reduceEqDiff, ↓reduceIte, g24, p0, p2, p4, p5, p6, p7]; refine yB (a ?_); clear a A) | (refine yD ?_; simp only [gresults, ↓yG, Nat.reduceEqDiff, ↓reduceIte, Option.bind_some, gld_1, gld_n, g24, p0, p2, p4, p5, p6, p7]; refine ⟨_, rfl, ?_⟩; simp only [gone]))
  refine zA ?_
  repeat' (first | refine zB ?_ | refine zC ?_ | refine zD ?_ | refine zE ?_ | refine zF ?_ | refine zG ?_ | refine zH ?_ | refine zI ?_ | refine zJ ?_ | refine zK rfl ?_ | refine zL ?_ | refine zM ?_ | refine zN ?_ | refine zO ?_ | refine zP rfl ?_ | refine zQ ?_ | ((first | refine zR ?_ | refine zS ?_ | refine zT ?_ | skip); intro K k; simp (disch := (first | (simp only [yD2, beq_self_eq_true, Nat.reduceLT, Nat.reduceAdd]; done) | ((fail_if_success (apply Bool.eq_iff_iff.2)); first | omega | (simp only [yD2, beq_self_eq_true, Nat.reduceLT, Nat.reduceAdd] <;> omega)) | fail)) only [↓yS, yT, ↓reduceIte, Nat.reduceEqDiff, Nat.reduceAdd, Nat.reduceMul, reduceCtorEq, Int.reduceToNat, g24, p0, p2, p4, p5, p6, p7]; refine yC (k _ _ ?_); clear k K) | ((first | refine zU ?_ | refine zV ?_ | refine zW ?_); intro A B C D a b c d; simp only [↓yG, Nat.reduceEqDiff, ↓reduceIte, g24, p0, p2, p4, p5, p6, p7]; (first | refine zX (a ?_) | refine zY (b ?_) | refine zZ (fun hc => c ?_) (fun hc => d ?_)) <;> clear a b c d A B C D <;> try simp only [yL] at hc) | (refine yA ?_; intro A a; simp only [↓yG, Nat.reduceEqDiff, ↓reduceIte, g24, p0, p2, p4, p5, p6, p7]; refine yB (a ?_); clear a A) | (refine yD ?_; simp only [gresults, ↓yG, Nat.reduceEqDiff, ↓reduceIte, Option.bind_some, gld_1, gld_n, g24, p0, p2, p4, p5, p6, p7]; refine ⟨_, rfl, ?_⟩; simp only [gone]))
  refine Gw_s fun K' hK' => G1_call (by simp only [gtarget, ↓GArg.ev, ↓evs, ↓Tr.get_set, Nat.reduceEqDiff, if_true, if_false, ↓reduceIte, Option.map_some, p0, p2, p4, p5, p6, p7]; rfl) (one_of (hpo _)) fun r3 H3 hq3 => hK' _ _ ?_
  obtain ⟨rfl, rfl⟩ := hq3
  repeat' (first | refine zB ?_ | refine zC ?_ | refine zD ?_ | refine zE ?_ | refine zF ?_ | refine zG ?_ | refine zH ?_ | refine zI ?_ | refine zJ ?_ | refine zK rfl ?_ | refine zL ?_ | refine zM ?_ | refine zN ?_ | refine zO ?_ | refine zP rfl ?_ | refine zQ ?_ | ((first | refine zR ?_ | refine zS ?_ | refine zT ?_ | skip); intro K k; simp (disch := (first | (simp only [yD2, beq_self_eq_true, Nat.reduceLT, Nat.reduceAdd]; done) | ((fail_if_success (apply Bool.eq_iff_iff.2)); first | omega | (simp only [yD2, beq_self_eq_true, Nat.reduceLT, Nat.reduceAdd] <;> omega)) | fail)) only [↓yS, yT, ↓reduceIte, Nat.reduceEqDiff, Nat.reduceAdd, Nat.reduceMul, reduceCtorEq, Int.reduceToNat, g24, p0, p2, p4, p5, p6, p7, e0]; refine yC (k _ _ ?_); clear k K) | ((first | refine zU ?_ | refine zV ?_ | refine zW ?_); intro A B C D a b c d; simp only [↓yG, Nat.reduceEqDiff, ↓reduceIte, g24, p0, p2, p4, p5, p6, p7, e0]; (first | refine zX (a ?_) | refine zY (b ?_) | refine zZ (fun hc => c ?_) (fun hc => d ?_)) <;> clear a b c d A B C D <;> try simp only [yL] at hc) | (refine yA ?_; intro A a; simp only [↓yG, Nat.reduceEqDiff, ↓reduceIte, g24, p0, p2, p4, p5, p6, p7, e0]; refine yB (a ?_); clear a A) | (refine yD ?_; simp only [gresults, ↓yG, Nat.reduceEqDiff, ↓reduceIte, Option.bind_some, gld_1, gld_n, g24, p0, p2, p4, p5, p6, p7, e0]; refine ⟨_, rfl, ?_⟩; simp only [gone]))
  generalize H3.put H1.len (.cells ((runC ⟨[], st, y⟩).set 0 (.string (strB t))) 0 true) = H4 at *
  have hO4 := hO.later hS13
  have m04 : H4.mine H.len = some ([.slice none 0 0], 0) := by rw [hS13.mine hl0]; exact m0
  have m14 : H4.mine (H.len + 1) = some ([w], 0) := by rw [hS13.mine hl1]; exact m1
  have r4 : H4.rd (H.len + 1) 0 = some w := mine_rd m14
  have r5 : H4.rdn H1.len 0 5 = some (runV ⟨t, st, y⟩) := by simp only [GHeap.rdn, mine_cs m3, Option.bind_some]; rfl
  refine zA ?_
  repeat' (first | refine zB ?_ | refine zC ?_ | refine zD ?_ | refine zE ?_ | refine zF ?_ | refine zG ?_ | refine zH ?_ | refine zI ?_ | refine zJ ?_ | refine zK rfl ?_ | refine zL ?_ | refine zM ?_ | refine zN ?_ | refine zO ?_ | refine zP rfl ?_ | refine zQ ?_ | ((first | refine zR ?_ | refine zS ?_ | refine zT ?_ | skip); intro K k; simp (disch := (first | (simp only [yD2, beq_self_eq_true, Nat.reduceLT, Nat.reduceAdd]; done) | ((fail_if_success (apply Bool.eq_iff_iff.2)); first | omega | (simp only [yD2, beq_self_eq_true, Nat.reduceLT, Nat.reduceAdd] <;> omega)) | fail)) only [↓yS, yT, ↓reduceIte, Nat.reduceEqDiff, Nat.reduceAdd, Nat.reduceMul, reduceCtorEq, Int.reduceToNat, g24, p0, p2, p4, p5, p6, p7, hs2]; refine yC (k _ _ ?_); clear k K) | ((first | refine zU ?_ | refine zV ?_ | refine zW ?_); intro A B C D a b c d; simp only [↓yG, Nat.reduceEqDiff, ↓reduceIte, g24, p0, p2, p4, p5, p6, p7, hs2]; (first | refine zX (a ?_) | refine zY (b ?_) | refine zZ (fun hc => c ?_) (fun hc => d ?_)) <;> clear a b c d A B C D <;> try simp only [yL] at hc) | (refine yA ?_; intro A a; simp only [↓yG, Nat.reduceEqDiff, ↓reduceIte, g24, p0, p2, p4, p5, p6, p7, hs2]; refine yB (a ?_); clear a A) | (refine yD ?_; simp only [gresults, ↓yG, Nat.reduceEqDiff, ↓reduceIte, Option.bind_some, gld_1, gld_n, g24, p0, p2, p4, p5, p6, p7, hs2]; refine ⟨_, rfl, ?_⟩; simp only [gone]))
  refine zA ?_
  repeat' (first | refine zB ?_ | refine zC ?_ | refine zD ?_ | refine zE ?_ | refine zF ?_ | refine zG ?_ | refine zH ?_ | refine zI ?_ | refine zJ ?_ | refine zK rfl ?_ | refine zL ?_ | refine zM ?_ | refine zN ?_ | refine zO ?_ | refine zP rfl ?_ | refine zQ ?_ | ((first | refine zR ?_ | refine zS ?_ | refine zT ?_ | skip); intro K k; simp (disch := (first | (simp only [yD2, beq_self_eq_true, Nat.reduceLT, Nat.reduceAdd]; done) | ((fail_if_success (apply Bool.eq_iff_iff.2)); first | omega | (simp only [yD2, beq_self_eq_true, Nat.reduceLT, Nat.reduceAdd] <;> omega)) | fail)) only [↓yS, yT, ↓reduceIte, Nat.reduceEqDiff, Nat.reduceAdd, Nat.reduceMul, reduceCtorEq, Int.reduceToNat, g24, p0, p2, p4, p5, p6, p7, r4, r5, RN]; refine yC (k _ _ ?_); clear k K) | ((first | refine zU ?_ | refine zV ?_ | refine zW ?_); intro A B C D a b c d; simp only [↓yG, Nat.reduceEqDiff, ↓reduceIte, g24, p0, p2, p4, p5, p6, p7, r4, r5, RN]; (first | refine zX (a ?_) | refine zY (b ?_) | refine zZ (fun hc => c ?_) (fun hc => d ?_)) <;> clear a b c d A B C D <;> try simp only [yL] at hc) | (refine yA ?_; intro A a; simp only [↓yG, Nat.reduceEqDiff, ↓reduceIte, g24, p0, p2, p4, p5, p6, p7, r4, r5, RN]; refine yB (a ?_); clear a A) | (refine yD ?_; simp only [gresults, ↓yG, Nat.reduceEqDiff, ↓reduceIte, Option.bind_some, gld_1, gld_n, g24, p0, p2, p4, p5, p6, p7, r4, r5, RN]; refine ⟨_, rfl, ?_⟩; simp only [gone]))
  refine Gw_s fun K' hK' => ?_
  simp (disch := (first | (simp only [yD2, beq_self_eq_true, Nat.reduceLT, Nat.reduceAdd]; done) | ((fail_if_success (apply Bool.eq_iff_iff.2)); first | omega | (simp only [yD2, beq_self_eq_true, Nat.reduceLT, Nat.reduceAdd] <;> omega)) | fail)) only [↓yS, yT, ↓reduceIte, Nat.reduceEqDiff, Nat.reduceAdd, Nat.reduceMul, reduceCtorEq, Int.reduceToNat, p0, p2, p4, p5, p6, p7]
  obtain ⟨w', H5, e, hO5, hB5⟩ := OS.app1 hO4 (by decide) (by decide) (news := runC ⟨t, st, y⟩) rfl (b := 40) (by omega) (by omega)
  refine G1_eq e (hK' _ _ ?_)
  clear hK' K' e
  have hO5' : OR H H5 w' (out ++ [⟨t, st, y⟩]) := by
    have e1 : RunsC (out ++ [⟨t, st, y⟩]) = RunsC out ++ runC ⟨t, st, y⟩ := by simp [RunsC]
    have e2 : (out ++ [(⟨t, st, y⟩ : SR)]).length = out.length + 1 := by simp
    unfold OR
    rw [e1, e2]; exact hO5
  have hw4 := hS13.wf
  have m05 : H5.mine H.len = some ([.slice none 0 0], 0) := by rw [hB5.mine (mine_lt hw4 m04) (not_id hO4 m04 (by decide))]; exact m04
  have m15 : H5.mine (H.len + 1) = some ([w], 0) := by rw [hB5.mine (mine_lt hw4 m14) (not_id hO4 m14 (by decide))]; exact m14
  have hst : gst none H5 (.pointer (some ⟨H.len + 1, 0, none⟩)) w' = some (H5.put (H.len + 1) (.cells [w'] 0 true)) := by
    rw [gst_1, m15, Option.bind_some, gset_ok (by simp) hO5'.flat]; rfl
  have hO6 : OR H (H5.put (H.len + 1) (.cells [w'] 0 true)) w' (out ++ [⟨t, st, y⟩]) := OS.put_u hO5' m15 (by omega) (by decide)
  have m06 : (H5.put (H.len + 1) (.cells [w'] 0 true)).mine H.len = some ([.slice none 0 0], 0) := by rw [mine_put_ne (by omega)]; exact m05
  have m16 : (H5.put (H.len + 1) (.cells [w'] 0 true)).mine (H.len + 1) = some ([w'], 0) := mine_put_same (mine_obj m15).1
  have r6 : (H5.put (H.len + 1) (.cells [w'] 0 true)).rd (H.len + 1) 0 = some w' := mine_rd m16
  have hso := (OR.rr hO6).isSl
  have hlo : (out ++ [(⟨t, st, y⟩ : SR)]).length = out.length + 1 := by simp
  rw [hlo] at hso
  repeat' (first | refine zB ?_ | refine zC ?_ | refine zD ?_ | refine zE ?_ | refine zF ?_ | refine zG ?_ | refine zH ?_ | refine zI ?_ | refine zJ ?_ | refine zK rfl ?_ | refine zL ?_ | refine zM ?_ | refine zN ?_ | refine zO ?_ | refine zP rfl ?_ | refine zQ ?_ | ((first | refine zR ?_ | refine zS ?_ | refine zT ?_ | skip); intro K k; simp (disch := (first | (simp only [yD2, beq_self_eq_true, Nat.reduceLT, Nat.reduceAdd]; done) | ((fail_if_success (apply Bool.eq_iff_iff.2)); first | omega | (simp only [yD2, beq_self_eq_true, Nat.reduceLT, Nat.reduceAdd] <;> omega)) | fail)) only [↓yS, yT, ↓reduceIte, Nat.reduceEqDiff, Nat.reduceAdd, Nat.reduceMul, reduceCtorEq, Int.reduceToNat, g24, p0, p2, p4, p5, p6, p7, hst]; refine yC (k _ _ ?_); clear k K) | ((first | refine zU ?_ | refine zV ?_ | refine zW ?_); intro A B C D a b c d; simp only [↓yG, Nat.reduceEqDiff, ↓reduceIte, g24, p0, p2, p4, p5, p6, p7, hst]; (first | refine zX (a ?_) | refine zY (b ?_) | refine zZ (fun hc => c ?_) (fun hc => d ?_)) <;> clear a b c d A B C D <;> try simp only [yL] at hc) | (refine yA ?_; intro A a; simp only [↓yG, Nat.reduceEqDiff, ↓reduceIte, g24, p0, p2, p4, p5, p6, p7, hst]; refine yB (a ?_); clear a A) | (refine yD ?_; simp only [gresults, ↓yG, Nat.reduceEqDiff, ↓reduceIte, Option.bind_some, gld_1, gld_n, g24, p0, p2, p4, p5, p6, p7, hst]; refine ⟨_, rfl, ?_⟩; simp only [gone]))
  generalize H5.put (H.len + 1) (.cells [w'] 0 true) = H6 at *
  have hO6n : OR H H6 (.slice none 0 0) [] := OS.nil hO6.same
  obtain ⟨b1, b2, b3⟩ := OR.res hO6n m06 rfl (Nat.le_refl _)
  have hzr : rowV (.slice none 0 0) = .agg #[.slice none 0 0] := rfl
  rw [hzr] at b1 b3
  by_cases hend : z2.length = q.length ∨ 16 < out.length + 1
  · rw [if_pos hend] at hL2
    have hbad : resF R s = none := by rw [hL2]; rfl
    rcases Nat.lt_or_ge 16 (out.length + 1) with h1 | h1
    · by_cases h2 : z2.length = q.length
      all_goals
        repeat' (first | (exfalso; omega) | refine zA ?_ | refine zB ?_ | refine zC ?_ | refine zD ?_ | refine zE ?_ | refine zF ?_ | refine zG ?_ | refine zH ?_ | refine zI ?_ | refine zJ ?_ | refine zK rfl ?_ | refine zL ?_ | refine zM ?_ | refine zN ?_ | refine zO ?_ | refine zP rfl ?_ | refine zQ ?_ | ((first | refine zR ?_ | refine zS ?_ | refine zT ?_ | skip); intro K k; simp (disch := (first | (simp only [yD2, beq_self_eq_true, Nat.reduceLT, Nat.reduceAdd]; done) | ((fail_if_success (apply Bool.eq_iff_iff.2)); first | omega | (simp only [yD2, beq_self_eq_true, Nat.reduceLT, Nat.reduceAdd] <;> omega)) | fail)) only [↓yS, yT, ↓reduceIte, Nat.reduceEqDiff, Nat.reduceAdd, Nat.reduceMul, reduceCtorEq, Int.reduceToNat, g24, p0, p2, p4, p5, p6, p7, strB_size, r6, hso.len, b1, b3]; refine yC (k _ _ ?_); clear k K) | ((first | refine zU ?_ | refine zV ?_ | refine zW ?_); intro A B C D a b c d; simp only [↓yG, Nat.reduceEqDiff, ↓reduceIte, g24, p0, p2, p4, p5, p6, p7, strB_size, r6, hso.len, b1, b3]; (first | refine zX (a ?_) | refine zY (b ?_) | refine zZ (fun hc => c ?_) (fun hc => d ?_)) <;> clear a b c d A B C D <;> try simp only [yL] at hc) | (refine yA ?_; intro A a; simp only [↓yG, Nat.reduceEqDiff, ↓reduceIte, g24, p0, p2, p4, p5, p6, p7, strB_size, r6, hso.len, b1, b3]; refine yB (a ?_); clear a A) | (refine yD ?_; simp only [gresults, ↓yG, Nat.reduceEqDiff, ↓reduceIte, Option.bind_some, gld_1, gld_n, g24, p0, p2, p4, p5, p6, p7, strB_size, r6, hso.len, b1, b3]; refine ⟨_, rfl, ?_⟩; simp only [gone]))
        exact hP0 _ _ hbad b2
    · have h2 : z2.length = q.length := by omega
      repeat' (first | (exfalso; omega) | refine zA ?_ | refine zB ?_ | refine zC ?_ | refine zD ?_ | refine zE ?_ | refine zF ?_ | refine zG ?_ | refine zH ?_ | refine zI ?_ | refine zJ ?_ | refine zK rfl ?_ | refine zL ?_ | refine zM ?_ | refine zN ?_ | refine zO ?_ | refine zP rfl ?_ | refine zQ ?_ | ((first | refine zR ?_ | refine zS ?_ | refine zT ?_ | skip); intro K k; simp (disch := (first | (simp only [yD2, beq_self_eq_true, Nat.reduceLT, Nat.reduceAdd]; done) | ((fail_if_success (apply Bool.eq_iff_iff.2)); first | omega | (simp only [yD2, beq_self_eq_true, Nat.reduceLT, Nat.reduceAdd] <;> omega)) | fail)) only [↓yS, yT, ↓reduceIte, Nat.reduceEqDiff, Nat.reduceAdd, Nat.reduceMul, reduceCtorEq, Int.reduceToNat, g24, p0, p2, p4, p5, p6, p7, strB_size, r6, hso.len, b1, b3]; refine yC (k _ _ ?_); clear k K) | ((first | refine zU ?_ | refine zV ?_ | refine zW ?_); intro A B C D a b c d; simp only [↓yG, Nat.reduceEqDiff, ↓reduceIte, g24, p0, p2, p4, p5, p6, p7, strB_size, r6, hso.len, b1, b3]; (first | refine zX (a ?_) | refine zY (b ?_) | refine zZ (fun hc => c ?_) (fun hc => d ?_)) <;> clear a b c d A B C D <;> try simp only [yL] at hc) | (refine yA ?_; intro A a; simp only [↓yG, Nat.reduceEqDiff, ↓reduceIte, g24, p0, p2, p4, p5, p6, p7, strB_size, r6, hso.len, b1, b3]; refine yB (a ?_); clear a A) | (refine yD ?_; simp only [gresults, ↓yG, Nat.reduceEqDiff, ↓reduceIte, Option.bind_some, gld_1, gld_n, g24, p0, p2, p4, p5, p6, p7, strB_size, r6, hso.len, b1, b3]; refine ⟨_, rfl, ?_⟩; simp only [gone]))
      exact hP0 _ _ hbad b2
  · rw [if_neg hend] at hL2
    repeat' (first | (exfalso; omega) | refine zA ?_ | refine zB ?_ | refine zC ?_ | refine zD ?_ | refine zE ?_ | refine zF ?_ | refine zG ?_ | refine zH ?_ | refine zI ?_ | refine zJ ?_ | refine zK rfl ?_ | refine zL ?_ | refine zM ?_ | refine zN ?_ | refine zO ?_ | refine zP rfl ?_ | refine zQ ?_ | ((first | refine zR ?_ | refine zS ?_ | refine zT ?_ | skip); intro K k; simp (disch := (first | (simp only [yD2, beq_self_eq_true, Nat.reduceLT, Nat.reduceAdd]; done) | ((fail_if_success (apply Bool.eq_iff_iff.2)); first | omega | (simp only [yD2, beq_self_eq_true, Nat.reduceLT, Nat.reduceAdd] <;> omega)) | fail)) only [↓yS, yT, ↓reduceIte, Nat.reduceEqDiff, Nat.reduceAdd, Nat.reduceMul, reduceCtorEq, Int.reduceToNat, g24, p0, p2, p4, p5, p6, p7, strB_size, r6, hso.len, b1, b3]; refine yC (k _ _ ?_); clear k K) | ((first | refine zU ?_ | refine zV ?_ | refine zW ?_); intro A B C D a b c d; simp only [↓yG, Nat.reduceEqDiff, ↓reduceIte, g24, p0, p2, p4, p5, p6, p7, strB_size, r6, hso.len, b1, b3]; (first | refine zX (a ?_) | refine zY (b ?_) | refine zZ (fun hc => c ?_) (fun hc => d ?_)) <;> clear a b c d A B C D <;> try simp only [yL] at hc) | (refine yA ?_; intro A a; simp only [↓yG, Nat.reduceEqDiff, ↓reduceIte, g24, p0, p2, p4, p5, p6, p7, strB_size, r6, hso.len, b1, b3]; refine yB (a ?_); clear a A) | (refine yD ?_; simp only [gresults, ↓yG, Nat.reduceEqDiff, ↓reduceIte, Option.bind_some, gld_1, gld_n, g24, p0, p2, p4, p5, p6, p7, strB_size, r6, hso.len, b1, b3]; refine ⟨_, rfl, ?_⟩; simp only [gone]))
    refine hJ _ _ ⟨k, by omega, z2, w', out ++ [⟨t, st, y⟩], by omega, by omega, ?_⟩
    simp only [↓yG, Nat.reduceEqDiff, ↓reduceIte, Int.natCast_add, Int.cast_ofNat_Int, Int.natCast_zero, true_and, and_true, Option.some.injEq, Value.int.injEq, p0, p2, p4]
    exact ⟨m06, m16, hO6, hL2.symm, by omega, fun x hx => (List.mem_append.1 hx).elim (hg x) fun h => by rw [List.mem_singleton.1 h]; exact hgs⟩
end Go.Gh
