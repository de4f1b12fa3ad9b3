/-
  style, walked: SameRows; the law StyleChecks.
-/
import Derived.Test.YtgbibkkcnkaelaaDoorSyN4
namespace Go.Gh
set_option linter.unusedSimpArgs false
set_option linter.unusedVariables false
open Go.RowKit
set_option maxRecDepth 4000

def fn28 : Value := .func (.func 28) #[] #[]
theorem eqFunc_ok {H : GHeap} (hw : H.wf) {a b : Value} {A B : List VR'} (ha : TR H a A) (hb : TR H b B) (hla : A.length ≤ 4611686018427387904) (hlb : B.length ≤ 4611686018427387904) (hA : Shorts A) (hB : Shorts B) :
    ∃ r H', gev G 67 [a, b, .func (.func 28) #[] #[]] H = some (r, H') ∧ (r = .bool (decide (A.map (·.2) = B.map (·.2))) ∧ Same H H') := by
  refine gev_GW (f := 67) rfl fun Post hPost => ?_
  have hsa := ha.isSl
  have hsb := hb.isSl
  simp only [frameOf, Nat.reduceAdd]
  repeat' (first | refine GW_seq ?_ | refine GW_line ?_ | refine Gw_nil ?_ | refine GN_seq ?_ | refine GN_blk ?_ | refine GW_block ?_ | refine GW_skip ?_ | refine GW_exit ?_ | refine GX_seq ?_ | refine GX_blk ?_ | refine GX_up rfl ?_ | refine GX_inv ?_ | refine GW_ret ?_ | refine GN_inv ?_ | refine GN_nil ?_ | refine GW_any rfl ?_ | refine Gp_nil ?_ | ((first | refine Gw_s fun K' hK' => ?_ | refine Gp_s fun K' hK' => ?_ | refine Gw_0 fun K' hK' => ?_ | intro K' hK'); (simp (disch := (first | (simp only [SD, SF, beq_self_eq_true, Nat.reduceLT, Nat.reduceAdd]; done) | ((fail_if_success (apply Bool.eq_iff_iff.2)); first | omega | (simp only [SD, SF, beq_self_eq_true, Nat.reduceLT, Nat.reduceAdd] <;> omega)) | fail)) only [↓SA, ↓GArg.ev, ↓evs, ↓evOpt, ↓evParts, ↓reduceIte, SB, SC, setL, if_true, if_false, Nat.reduceEqDiff, Nat.reduceAdd, Nat.reduceMul, reduceCtorEq, Int.reduceToNat, g67, hsa.len, hsb.len]; refine G1_go (hK' _ _ ?_); clear hK' K')) | ((first | refine Gw_dt fun A B C D hA hB hC hD => ?_ | refine Gw_df fun A B C D hA hB hC hD => ?_ | refine GW_cd fun A B C D hA hB hC hD => ?_); (simp only [↓Tr.get_set, Nat.reduceEqDiff, if_true, if_false, ↓reduceIte, g67, hsa.len, hsb.len]; first | (refine Gd_true (hA ?_); clear hA hB hC hD A B C D) | (refine Gd_false (hB ?_); clear hA hB hC hD A B C D) | (refine Gd_some (fun hc => hC ?_) (fun hc => hD ?_) <;> clear hA hB hC hD A B C D <;> (try simp only [decide_eq_true_eq, decide_eq_false_iff_not, Bool.not_eq_true', Bool.not_eq_false', Int.not_lt, Int.not_le, Bool.not_true, Bool.not_false, Bool.true_eq_false, Bool.false_eq_true, Decidable.not_not] at hc)))) | (refine Gw_u fun A hA => ?_; simp only [↓Tr.get_set, Nat.reduceEqDiff, if_true, if_false, ↓reduceIte, g67, hsa.len, hsb.len]; refine Gu_mk (hA ?_); clear hA A) | (refine GR.mk ?_; simp only [gresults, ↓Tr.get_set, Option.bind_some, Nat.reduceEqDiff, if_true, if_false, ↓reduceIte, gld_1, gld_n, g67, hsa.len, hsb.len]; refine ⟨_, rfl, ?_⟩; simp only [gone]))
  case refine_1 =>
    refine hPost _ _ ⟨?_, Same.refl hw⟩
    rw [decide_eq_false fun e => hc (by
      have h1 : A.length = B.length := by simpa using congrArg List.length e
      omega)]
  have hlen : A.length = B.length := by omega
  refine GW_loop (fun k fr H1 => ∃ (j : Nat), k = A.length - j ∧ j ≤ A.length ∧ fr.get 1 = some (b) ∧ fr.get 2 = some (.func (.func 28) #[] #[]) ∧ fr.get 15 = some (a) ∧ fr.get 16 = some (.int .i64 A.length) ∧ fr.get 17 = some (.int .i64 j) ∧ Same H H1 ∧ (A.map (·.2)).take j = (B.map (·.2)).take j) ?_ A.length ?_
  case refine_2.refine_2 =>
    refine ⟨0, by omega, by omega, ?_⟩
    simp only [↓Tr.get_set, Nat.reduceEqDiff, if_true, if_false, ↓reduceIte, Int.natCast_add, Int.cast_ofNat_Int, Int.natCast_zero, true_and, and_true, Option.some.injEq, Value.int.injEq]
    exact ⟨Same.refl hw, by simp⟩
  rintro k fr H1 ⟨j, rfl, hj, f1, f2, f15, f16, f17, hS, hte⟩ J hJ
  by_cases hj1 : j < A.length
  · obtain ⟨e1, _, r1⟩ := (ha.later hw hS).row hj1
    obtain ⟨e2, _, r2⟩ := (hb.later hw hS).row (j := j) (by omega)
    have hw1 := hS.wf
    have hlim1 := hw1.1
    have hmem : ∀ (e : A[j]!.2 = B[j]!.2), (A.map (·.2)).take (j + 1) = (B.map (·.2)).take (j + 1) := fun e => by
      rw [List.take_succ_eq_append_getElem (by simpa using hj1), List.take_succ_eq_append_getElem (by simp; omega), hte]
      simp only [List.getElem_map]
      rw [← getElem!_pos A j hj1, ← getElem!_pos B j (by omega), e]
    have hsha := hA.at_ hj1
    have hshb := hB.at_ (j := j) (by omega)
    have hbad : ¬ A[j]!.2 = B[j]!.2 → ¬ (A.map (·.2) = B.map (·.2)) := fun h e => h (by
      have := congrArg (fun l => l[j]?) e
      simp only [List.getElem?_map] at this
      rw [gget hj1, gget (by omega)] at this
      simpa using this)
    have e5 := fun (o o' : GObj) => ((hb.later hw (hS.trans ((Same.refl hw1).new o o'))).row (j := j) (by omega)).1
    have hgs : ∀ w, flatV w = true → gsetn [.slice none 0 0] 0 1 (rowV w) = some [w] := fun w hf => gsetn_all (vs := #[w]) rfl rfl (by simpa using hf)
    have g1 := hgs _ r1.flat
    have g2 := hgs _ r2.flat
    have hrow : ∀ (w : Value) (Hx : GHeap) (q : Nat), (Hx.put q (.cells [w] 0 true)).rdn q 0 1 = some (rowV w) := fun w Hx q => rdn_put_all rfl
    generalize A[j]!.1 = wa at *
    generalize A[j]!.2 = la at *
    generalize B[j]!.1 = wb at *
    generalize B[j]!.2 = lb at *
    have hlb : ((H1.add (some (.cells [.slice none 0 0] 0 true))).put H1.len (.cells [wa] 0 true)).len = H1.len + 1 := by rw [len_put, len_add]
    have hSx : Same H1 ((((H1.add (some (.cells [.slice none 0 0] 0 true))).put H1.len (.cells [wa] 0 true)).add (some (.cells [.slice none 0 0] 0 true))).put (H1.len + 1) (.cells [wb] 0 true)) := by
      have := ((Same.refl hw1).new (.cells [.slice none 0 0] 0 true) (.cells [wa] 0 true)).new (.cells [.slice none 0 0] 0 true) (.cells [wb] 0 true)
      rw [hlb] at this
      exact this
    repeat' (first | (exfalso; omega) | refine GW_seq ?_ | refine GW_line ?_ | refine Gw_nil ?_ | refine GN_seq ?_ | refine GN_blk ?_ | refine GW_block ?_ | refine GW_skip ?_ | refine GW_exit ?_ | refine GX_seq ?_ | refine GX_blk ?_ | refine GX_up rfl ?_ | refine GX_inv ?_ | refine GW_ret ?_ | refine GN_inv ?_ | refine GN_nil ?_ | refine GW_any rfl ?_ | refine Gp_nil ?_ | ((first | refine Gw_s fun K' hK' => ?_ | refine Gp_s fun K' hK' => ?_ | refine Gw_0 fun K' hK' => ?_ | intro K' hK'); (simp (disch := (first | (simp only [SD, SF, beq_self_eq_true, Nat.reduceLT, Nat.reduceAdd]; done) | ((fail_if_success (apply Bool.eq_iff_iff.2)); first | omega | (simp only [SD, SF, beq_self_eq_true, Nat.reduceLT, Nat.reduceAdd] <;> omega)) | fail)) only [↓SA, ↓GArg.ev, ↓evs, ↓evOpt, ↓evParts, ↓reduceIte, SB, SC, setL, if_true, if_false, Nat.reduceEqDiff, Nat.reduceAdd, Nat.reduceMul, reduceCtorEq, Int.reduceToNat, g67, f1, f2, f15, f16, f17, hsa.ia, hsb.ia, e1, e2, g1, g2, hrow, rdn_put_ne, rdn_add_ne, e5]; refine G1_go (hK' _ _ ?_); clear hK' K')) | ((first | refine Gw_dt fun A B C D hA hB hC hD => ?_ | refine Gw_df fun A B C D hA hB hC hD => ?_ | refine GW_cd fun A B C D hA hB hC hD => ?_); (simp only [↓Tr.get_set, Nat.reduceEqDiff, if_true, if_false, ↓reduceIte, g67, f1, f2, f15, f16, f17, hsa.ia, hsb.ia, e1, e2, g1, g2, hrow, rdn_put_ne, rdn_add_ne, e5]; first | (refine Gd_true (hA ?_); clear hA hB hC hD A B C D) | (refine Gd_false (hB ?_); clear hA hB hC hD A B C D) | (refine Gd_some (fun hc => hC ?_) (fun hc => hD ?_) <;> clear hA hB hC hD A B C D <;> (try simp only [decide_eq_true_eq, decide_eq_false_iff_not, Bool.not_eq_true', Bool.not_eq_false', Int.not_lt, Int.not_le, Bool.not_true, Bool.not_false, Bool.true_eq_false, Bool.false_eq_true, Decidable.not_not] at hc)))) | (refine Gw_u fun A hA => ?_; simp only [↓Tr.get_set, Nat.reduceEqDiff, if_true, if_false, ↓reduceIte, g67, f1, f2, f15, f16, f17, hsa.ia, hsb.ia, e1, e2, g1, g2, hrow, rdn_put_ne, rdn_add_ne, e5]; refine Gu_mk (hA ?_); clear hA A) | (refine GR.mk ?_; simp only [gresults, ↓Tr.get_set, Option.bind_some, Nat.reduceEqDiff, if_true, if_false, ↓reduceIte, gld_1, gld_n, g67, f1, f2, f15, f16, f17, hsa.ia, hsb.ia, e1, e2, g1, g2, hrow, rdn_put_ne, rdn_add_ne, e5]; refine ⟨_, rfl, ?_⟩; simp only [gone]))
    refine Gw_s fun K' hK' => G1_call (by simp only [gtarget, ↓GArg.ev, ↓evs, ↓Tr.get_set, Nat.reduceEqDiff, if_true, if_false, ↓reduceIte, Option.map_some, f1, f2, f15, f16, f17]; rfl) (same_ok hSx.wf (r1.later hw1 hSx) (r2.later hw1 hSx) hsha hshb) fun r3 H3 hq => hK' _ _ ?_
    obtain ⟨rfl, hS3⟩ := hq
    repeat' (first | (exfalso; omega) | refine GW_seq ?_ | refine GW_line ?_ | refine Gw_nil ?_ | refine GN_seq ?_ | refine GN_blk ?_ | refine GW_block ?_ | refine GW_skip ?_ | refine GW_exit ?_ | refine GX_seq ?_ | refine GX_blk ?_ | refine GX_up rfl ?_ | refine GX_inv ?_ | refine GW_ret ?_ | refine GN_inv ?_ | refine GN_nil ?_ | refine GW_any rfl ?_ | refine Gp_nil ?_ | ((first | refine Gw_s fun K' hK' => ?_ | refine Gp_s fun K' hK' => ?_ | refine Gw_0 fun K' hK' => ?_ | intro K' hK'); (simp (disch := (first | (simp only [SD, SF, beq_self_eq_true, Nat.reduceLT, Nat.reduceAdd]; done) | ((fail_if_success (apply Bool.eq_iff_iff.2)); first | omega | (simp only [SD, SF, beq_self_eq_true, Nat.reduceLT, Nat.reduceAdd] <;> omega)) | fail)) only [↓SA, ↓GArg.ev, ↓evs, ↓evOpt, ↓evParts, ↓reduceIte, SB, SC, setL, if_true, if_false, Nat.reduceEqDiff, Nat.reduceAdd, Nat.reduceMul, reduceCtorEq, Int.reduceToNat, g67, f1, f2, f15, f16, f17]; refine G1_go (hK' _ _ ?_); clear hK' K')) | ((first | refine Gw_dt fun A B C D hA hB hC hD => ?_ | refine Gw_df fun A B C D hA hB hC hD => ?_ | refine GW_cd fun A B C D hA hB hC hD => ?_); (simp only [↓Tr.get_set, Nat.reduceEqDiff, if_true, if_false, ↓reduceIte, g67, f1, f2, f15, f16, f17]; first | (refine Gd_true (hA ?_); clear hA hB hC hD A B C D) | (refine Gd_false (hB ?_); clear hA hB hC hD A B C D) | (refine Gd_some (fun hc => hC ?_) (fun hc => hD ?_) <;> clear hA hB hC hD A B C D <;> (try simp only [decide_eq_true_eq, decide_eq_false_iff_not, Bool.not_eq_true', Bool.not_eq_false', Int.not_lt, Int.not_le, Bool.not_true, Bool.not_false, Bool.true_eq_false, Bool.false_eq_true, Decidable.not_not] at hc)))) | (refine Gw_u fun A hA => ?_; simp only [↓Tr.get_set, Nat.reduceEqDiff, if_true, if_false, ↓reduceIte, g67, f1, f2, f15, f16, f17]; refine Gu_mk (hA ?_); clear hA A) | (refine GR.mk ?_; simp only [gresults, ↓Tr.get_set, Option.bind_some, Nat.reduceEqDiff, if_true, if_false, ↓reduceIte, gld_1, gld_n, g67, f1, f2, f15, f16, f17]; refine ⟨_, rfl, ?_⟩; simp only [gone]))
    case pos.refine_1.refine_1 =>
      refine hPost _ _ ⟨?_, (hS.trans hSx).trans hS3⟩
      rw [decide_eq_false (hbad hc)]
    case pos.refine_1.refine_2 =>
      refine hJ _ _ ⟨A.length - (j + 1), by omega, j + 1, rfl, by omega, ?_⟩
      simp only [↓Tr.get_set, Nat.reduceEqDiff, if_true, if_false, ↓reduceIte, Int.natCast_add, Int.cast_ofNat_Int, Int.natCast_zero, true_and, and_true, Option.some.injEq, Value.int.injEq, f1, f2, f15, f16]
      exact ⟨(hS.trans hSx).trans hS3, hmem hc⟩
  · obtain rfl : j = A.length := by omega
    have heq : A.map (·.2) = B.map (·.2) := by
      have e1 : (A.map (·.2)).take A.length = A.map (·.2) := List.take_of_length_le (by simp)
      have e2 : (B.map (·.2)).take A.length = B.map (·.2) := List.take_of_length_le (by simp; omega)
      rw [e1, e2] at hte
      exact hte
    rw [decide_eq_true heq] at hPost
    repeat' (first | (exfalso; omega) | refine GW_seq ?_ | refine GW_line ?_ | refine Gw_nil ?_ | refine GN_seq ?_ | refine GN_blk ?_ | refine GW_block ?_ | refine GW_skip ?_ | refine GW_exit ?_ | refine GX_seq ?_ | refine GX_blk ?_ | refine GX_up rfl ?_ | refine GX_inv ?_ | refine GW_ret ?_ | refine GN_inv ?_ | refine GN_nil ?_ | refine GW_any rfl ?_ | refine Gp_nil ?_ | ((first | refine Gw_s fun K' hK' => ?_ | refine Gp_s fun K' hK' => ?_ | refine Gw_0 fun K' hK' => ?_ | intro K' hK'); (simp (disch := (first | (simp only [SD, SF, beq_self_eq_true, Nat.reduceLT, Nat.reduceAdd]; done) | ((fail_if_success (apply Bool.eq_iff_iff.2)); first | omega | (simp only [SD, SF, beq_self_eq_true, Nat.reduceLT, Nat.reduceAdd] <;> omega)) | fail)) only [↓SA, ↓GArg.ev, ↓evs, ↓evOpt, ↓evParts, ↓reduceIte, SB, SC, setL, if_true, if_false, Nat.reduceEqDiff, Nat.reduceAdd, Nat.reduceMul, reduceCtorEq, Int.reduceToNat, g67, f1, f2, f15, f16, f17]; refine G1_go (hK' _ _ ?_); clear hK' K')) | ((first | refine Gw_dt fun A B C D hA hB hC hD => ?_ | refine Gw_df fun A B C D hA hB hC hD => ?_ | refine GW_cd fun A B C D hA hB hC hD => ?_); (simp only [↓Tr.get_set, Nat.reduceEqDiff, if_true, if_false, ↓reduceIte, g67, f1, f2, f15, f16, f17]; first | (refine Gd_true (hA ?_); clear hA hB hC hD A B C D) | (refine Gd_false (hB ?_); clear hA hB hC hD A B C D) | (refine Gd_some (fun hc => hC ?_) (fun hc => hD ?_) <;> clear hA hB hC hD A B C D <;> (try simp only [decide_eq_true_eq, decide_eq_false_iff_not, Bool.not_eq_true', Bool.not_eq_false', Int.not_lt, Int.not_le, Bool.not_true, Bool.not_false, Bool.true_eq_false, Bool.false_eq_true, Decidable.not_not] at hc)))) | (refine Gw_u fun A hA => ?_; simp only [↓Tr.get_set, Nat.reduceEqDiff, if_true, if_false, ↓reduceIte, g67, f1, f2, f15, f16, f17]; refine Gu_mk (hA ?_); clear hA A) | (refine GR.mk ?_; simp only [gresults, ↓Tr.get_set, Option.bind_some, Nat.reduceEqDiff, if_true, if_false, ↓reduceIte, gld_1, gld_n, g67, f1, f2, f15, f16, f17]; refine ⟨_, rfl, ?_⟩; simp only [gone]))
    exact hPost _ _ ⟨rfl, hS⟩
theorem TR.mk2 {H : GHeap} (hw : H.wf) {a b : Value} {A B : List SR} (ha : RR H a A) (hb : RR H b B) : TR (H.add (some (.cells [a, b] 1 true))) (.slice (some ⟨H.len, 0, none⟩) 2 3) [(a, A), (b, B)] := by
  have hS : Same H (H.add (some (.cells [a, b] 1 true))) := (Same.refl hw).add _
  refine ⟨OwnG.arg hS.wf ⟨rfl, .inr ⟨H.len, 3, rfl, .inr rfl, mine_add_eq rfl hw.1⟩⟩ (.inr rfl), fun x hx => ?_⟩
  simp only [List.mem_cons, List.not_mem_nil, or_false] at hx
  rcases hx with rfl | rfl
  · exact ha.later hw hS
  · exact hb.later hw hS
theorem TR.mk1 {H : GHeap} (hw : H.wf) {a : Value} {A : List SR} (ha : RR H a A) : TR (H.add (some (.cells [a] 1 true))) (.slice (some ⟨H.len, 0, none⟩) 1 2) [(a, A)] := by
  have hS : Same H (H.add (some (.cells [a] 1 true))) := (Same.refl hw).add _
  refine ⟨OwnG.arg hS.wf ⟨rfl, .inr ⟨H.len, 2, rfl, .inr rfl, mine_add_eq rfl hw.1⟩⟩ (.inr rfl), fun x hx => ?_⟩
  simp only [List.mem_cons, List.not_mem_nil, or_false] at hx
  subst hx
  exact ha.later hw hS
theorem sameRows_ok {H : GHeap} (hw : H.wf) {a b : Value} {A B : List VR'} (ha : TR H a A) (hb : TR H b B) (hla : A.length ≤ 4611686018427387904) (hlb : B.length ≤ 4611686018427387904) (hA : Shorts A) (hB : Shorts B) :
    ∃ r H', gev G 42 [a, b] H = some (r, H') ∧ (r = .bool (decide (A.map (·.2) = B.map (·.2))) ∧ Same H H') := by
  refine gev_GW (f := 42) rfl fun Post hPost => ?_
  simp only [frameOf, Nat.reduceAdd]
  repeat' (first | refine GW_seq ?_ | refine GW_line ?_ | refine Gw_nil ?_ | refine GN_seq ?_ | refine GN_blk ?_ | refine GW_block ?_ | refine GW_skip ?_ | refine GW_exit ?_ | refine GX_seq ?_ | refine GX_blk ?_ | refine GX_up rfl ?_ | refine GX_inv ?_ | refine GW_ret ?_ | refine GN_inv ?_ | refine GN_nil ?_ | refine GW_any rfl ?_ | refine Gp_nil ?_ | ((first | refine Gw_s fun K' hK' => ?_ | refine Gp_s fun K' hK' => ?_ | refine Gw_0 fun K' hK' => ?_ | intro K' hK'); (simp (disch := (first | (simp only [SD, SF, beq_self_eq_true, Nat.reduceLT, Nat.reduceAdd]; done) | ((fail_if_success (apply Bool.eq_iff_iff.2)); first | omega | (simp only [SD, SF, beq_self_eq_true, Nat.reduceLT, Nat.reduceAdd] <;> omega)) | fail)) only [↓SA, ↓GArg.ev, ↓evs, ↓evOpt, ↓evParts, ↓reduceIte, SB, SC, setL, if_true, if_false, Nat.reduceEqDiff, Nat.reduceAdd, Nat.reduceMul, reduceCtorEq, Int.reduceToNat, g42]; refine G1_go (hK' _ _ ?_); clear hK' K')) | ((first | refine Gw_dt fun A B C D hA hB hC hD => ?_ | refine Gw_df fun A B C D hA hB hC hD => ?_ | refine GW_cd fun A B C D hA hB hC hD => ?_); (simp only [↓Tr.get_set, Nat.reduceEqDiff, if_true, if_false, ↓reduceIte, g42]; first | (refine Gd_true (hA ?_); clear hA hB hC hD A B C D) | (refine Gd_false (hB ?_); clear hA hB hC hD A B C D) | (refine Gd_some (fun hc => hC ?_) (fun hc => hD ?_) <;> clear hA hB hC hD A B C D <;> (try simp only [decide_eq_true_eq, decide_eq_false_iff_not, Bool.not_eq_true', Bool.not_eq_false', Int.not_lt, Int.not_le, Bool.not_true, Bool.not_false, Bool.true_eq_false, Bool.false_eq_true, Decidable.not_not] at hc)))) | (refine Gw_u fun A hA => ?_; simp only [↓Tr.get_set, Nat.reduceEqDiff, if_true, if_false, ↓reduceIte, g42]; refine Gu_mk (hA ?_); clear hA A) | (refine GR.mk ?_; simp only [gresults, ↓Tr.get_set, Option.bind_some, Nat.reduceEqDiff, if_true, if_false, ↓reduceIte, gld_1, gld_n, g42]; refine ⟨_, rfl, ?_⟩; simp only [gone]))
  refine Gw_s fun K' hK' => G1_call (by simp only [gtarget, ↓GArg.ev, ↓evs, ↓Tr.get_set, Nat.reduceEqDiff, if_true, if_false, ↓reduceIte, Option.map_some]; rfl) (eqFunc_ok hw ha hb hla hlb hA hB) fun r1 H1 hq => hK' _ _ ?_
  obtain ⟨rfl, hS⟩ := hq
  repeat' (first | refine GW_seq ?_ | refine GW_line ?_ | refine Gw_nil ?_ | refine GN_seq ?_ | refine GN_blk ?_ | refine GW_block ?_ | refine GW_skip ?_ | refine GW_exit ?_ | refine GX_seq ?_ | refine GX_blk ?_ | refine GX_up rfl ?_ | refine GX_inv ?_ | refine GW_ret ?_ | refine GN_inv ?_ | refine GN_nil ?_ | refine GW_any rfl ?_ | refine Gp_nil ?_ | ((first | refine Gw_s fun K' hK' => ?_ | refine Gp_s fun K' hK' => ?_ | refine Gw_0 fun K' hK' => ?_ | intro K' hK'); (simp (disch := (first | (simp only [SD, SF, beq_self_eq_true, Nat.reduceLT, Nat.reduceAdd]; done) | ((fail_if_success (apply Bool.eq_iff_iff.2)); first | omega | (simp only [SD, SF, beq_self_eq_true, Nat.reduceLT, Nat.reduceAdd] <;> omega)) | fail)) only [↓SA, ↓GArg.ev, ↓evs, ↓evOpt, ↓evParts, ↓reduceIte, SB, SC, setL, if_true, if_false, Nat.reduceEqDiff, Nat.reduceAdd, Nat.reduceMul, reduceCtorEq, Int.reduceToNat, g42]; refine G1_go (hK' _ _ ?_); clear hK' K')) | ((first | refine Gw_dt fun A B C D hA hB hC hD => ?_ | refine Gw_df fun A B C D hA hB hC hD => ?_ | refine GW_cd fun A B C D hA hB hC hD => ?_); (simp only [↓Tr.get_set, Nat.reduceEqDiff, if_true, if_false, ↓reduceIte, g42]; first | (refine Gd_true (hA ?_); clear hA hB hC hD A B C D) | (refine Gd_false (hB ?_); clear hA hB hC hD A B C D) | (refine Gd_some (fun hc => hC ?_) (fun hc => hD ?_) <;> clear hA hB hC hD A B C D <;> (try simp only [decide_eq_true_eq, decide_eq_false_iff_not, Bool.not_eq_true', Bool.not_eq_false', Int.not_lt, Int.not_le, Bool.not_true, Bool.not_false, Bool.true_eq_false, Bool.false_eq_true, Decidable.not_not] at hc)))) | (refine Gw_u fun A hA => ?_; simp only [↓Tr.get_set, Nat.reduceEqDiff, if_true, if_false, ↓reduceIte, g42]; refine Gu_mk (hA ?_); clear hA A) | (refine GR.mk ?_; simp only [gresults, ↓Tr.get_set, Option.bind_some, Nat.reduceEqDiff, if_true, if_false, ↓reduceIte, gld_1, gld_n, g42]; refine ⟨_, rfl, ?_⟩; simp only [gone]))
  exact hPost _ _ ⟨rfl, hS⟩
end Go.Gh
