/-
  style and its reference, walked: copies of rows.
-/
import Derived.Test.YtgbibkkcnkaelaaDoorSyK1
namespace Go.Gh
set_option linter.unusedSimpArgs false
set_option linter.unusedVariables false
open Go.RowKit
set_option maxRecDepth 4000

/-- runs of one's own -/
abbrev OR (H0 H : GHeap) (v : Value) (l : List SR) : Prop := OS 5 5 H0 H v l.length (RunsC l)
theorem OR.rr {H0 H : GHeap} {v : Value} {l : List SR} (h : OR H0 H v l) : RR H v l := OwnG.arg h.same.wf h.own (.inr rfl)
/-- a table of rows of one's own -/
structure TO (H0 H : GHeap) (v : Value) (L : List VR') : Prop where
  own : OS 1 1 H0 H v L.length (L.map (·.1))
  rows : ∀ x ∈ L, OR H0 H x.1 x.2
theorem TO.tr {H0 H : GHeap} {v : Value} {L : List VR'} (h : TO H0 H v L) : TR H v L := ⟨OwnG.arg h.own.same.wf h.own.own (.inr rfl), fun x hx => (h.rows x hx).rr⟩
theorem TO.later {H0 H H' : GHeap} {v : Value} {L : List VR'} (h : TO H0 H v L) (hs : Same H H') : TO H0 H' v L := ⟨h.own.later hs, fun x hx => (h.rows x hx).later hs⟩
theorem OS.unit_ne {s u s' u' n n' : Nat} {H0 H1 H : GHeap} {v w : Value} {xs ys : List Value} (h : OS s u H0 H v n xs) (k : OS s' u' H1 H w n' ys) (hu : u ≠ u') : ∀ a ∈ idOf v, ¬ a ∈ idOf w := fun a ha hb => by
  have h1 := (h.ids ha).2.2
  have h2 := (k.ids hb).2.2
  rw [h1] at h2
  simp only [Option.some.injEq, Prod.mk.injEq] at h2
  exact hu h2.2
theorem OR.flat {H0 H : GHeap} {v : Value} {l : List SR} (h : OR H0 H v l) : flatV v = true := h.rr.flat
theorem TO.snoc {H0 H : GHeap} {v : Value} {L : List VR'} (h : TO H0 H v L) {w : Value} {l : List SR} (hx : OR H0 H w l) (hl : (L.length + 1) * 24 ≤ 140737488355328) :
    ∃ v' H', gapp 1 24 1 (H.add (some (.cells [w] 1 true))) v (.slice (some ⟨H.len, 0, none⟩) 1 2) = some (v', H') ∧ TO H0 H' v' (L ++ [(w, l)]) ∧ But (fun j => j ∈ idOf v) H H' := by
  obtain ⟨v', H', e, hO, hB⟩ := h.own.app1 (by decide) (by decide) (news := [w]) rfl (b := 24) hl (by omega)
  refine ⟨v', H', e, ⟨by simpa using hO, fun y hy => ?_⟩, hB⟩
  have : OR H0 H y.1 y.2 := by
    rcases List.mem_append.1 hy with hy | hy
    · exact h.rows y hy
    · rw [List.mem_singleton.1 hy]; exact hx
  exact this.but hB (fun k hk ha => by have := (h.own.ids ha).1; omega) (this.unit_ne h.own (by decide))
theorem rclone_ok {H : GHeap} (hw : H.wf) {a : Value} {A : List VR'} (ha : TR H a A) (hla : A.length * 24 ≤ 140737488351232) (hA : ∀ x ∈ A, x.2.length * 40 ≤ 140737488351232) :
    ∃ r H', gev G 29 [a] H = some (r, H') ∧ ∃ L, TO H H' r L ∧ L.map (·.2) = A.map (·.2) := by
  refine gev_GW (f := 29) rfl fun Post hPost => ?_
  have hlim := hw.1
  have hsa := ha.isSl
  simp only [frameOf, Nat.reduceAdd]
  repeat' (first | refine GW_seq ?_ | refine GW_line ?_ | refine Gw_nil ?_ | refine GN_seq ?_ | refine GN_blk ?_ | refine GW_block ?_ | refine GW_skip ?_ | refine GW_exit ?_ | refine GX_seq ?_ | refine GX_blk ?_ | refine GX_up rfl ?_ | refine GX_inv ?_ | refine GW_ret ?_ | refine GN_inv ?_ | refine GN_nil ?_ | refine GW_any rfl ?_ | refine Gp_nil ?_ | ((first | refine Gw_s fun K' hK' => ?_ | refine Gp_s fun K' hK' => ?_ | refine Gw_0 fun K' hK' => ?_ | intro K' hK'); (simp (disch := (first | (simp only [SD, SF, beq_self_eq_true, Nat.reduceLT, Nat.reduceAdd]; done) | ((fail_if_success (apply Bool.eq_iff_iff.2)); first | omega | (simp only [SD, SF, beq_self_eq_true, Nat.reduceLT, Nat.reduceAdd] <;> omega)) | fail)) only [↓SA, ↓GArg.ev, ↓evs, ↓evOpt, ↓evParts, ↓reduceIte, SB, SC, setL, if_true, if_false, Nat.reduceEqDiff, Nat.reduceAdd, Nat.reduceMul, reduceCtorEq, Int.reduceToNat, g29, hsa.len]; refine G1_go (hK' _ _ ?_); clear hK' K')) | ((first | refine Gw_dt fun A B C D hA hB hC hD => ?_ | refine Gw_df fun A B C D hA hB hC hD => ?_ | refine GW_cd fun A B C D hA hB hC hD => ?_); (simp only [↓Tr.get_set, Nat.reduceEqDiff, if_true, if_false, ↓reduceIte, g29, hsa.len]; first | (refine Gd_true (hA ?_); clear hA hB hC hD A B C D) | (refine Gd_false (hB ?_); clear hA hB hC hD A B C D) | (refine Gd_some (fun hc => hC ?_) (fun hc => hD ?_) <;> clear hA hB hC hD A B C D <;> (try simp only [decide_eq_true_eq, decide_eq_false_iff_not, Bool.not_eq_true', Bool.not_eq_false', Int.not_lt, Int.not_le, Bool.not_true, Bool.not_false, Bool.true_eq_false, Bool.false_eq_true, Decidable.not_not] at hc)))) | (refine Gw_u fun A hA => ?_; simp only [↓Tr.get_set, Nat.reduceEqDiff, if_true, if_false, ↓reduceIte, g29, hsa.len]; refine Gu_mk (hA ?_); clear hA A) | (refine GR.mk ?_; simp only [gresults, ↓Tr.get_set, Option.bind_some, Nat.reduceEqDiff, if_true, if_false, ↓reduceIte, gld_1, gld_n, g29, hsa.len]; refine ⟨_, rfl, ?_⟩; simp only [gone]))
  refine GW_loop (fun k fr H1 => ∃ (j : Nat) (v : Value) (L : List VR'), k = A.length - j ∧ j ≤ A.length ∧ fr.get 3 = some (v) ∧ fr.get 6 = some (a) ∧ fr.get 7 = some (.int .i64 A.length) ∧ fr.get 8 = some (.int .i64 j) ∧ TO H H1 v L ∧ L.map (·.2) = (A.map (·.2)).take j) ?_ A.length ?_
  case refine_2 =>
    refine ⟨0, .slice none 0 0, [], by omega, by omega, ?_⟩
    simp only [↓Tr.get_set, Nat.reduceEqDiff, if_true, if_false, ↓reduceIte, Int.natCast_add, Int.cast_ofNat_Int, Int.natCast_zero, true_and, and_true, Option.some.injEq, Value.int.injEq]
    exact ⟨⟨OS.nil (Same.refl hw), by simp⟩, by simp⟩
  rintro k fr H1 ⟨j, v, L, rfl, hj, f3, f6, f7, f8, hT, hL⟩ J hJ
  have hS := hT.own.same
  by_cases hj1 : j < A.length
  · obtain ⟨e1, _, r1⟩ := (ha.later hw hS).row hj1
    have hlen := hA A[j]! (by rw [getElem!_pos A j hj1]; exact List.getElem_mem _)
    have hrow : ∀ x, rowV x = .agg [x].toArray := fun _ => rfl
    have hLl : L.length = j := by
      have := congrArg List.length hL
      simp at this; omega
    have hlim1 := hS.wf.1
    generalize hw0 : A[j]!.1 = w0 at *
    generalize hl0 : A[j]!.2 = l0 at *
    have hf := r1.flat
    have hw1 := hS.wf
    have hst := gst_add hw1 (n := 1) (z := [.slice none 0 0]) (u := 0) (vs := #[w0]) rfl rfl (by simp [hf])
    have hbw : ∀ w, flatV w = true → fillL [.slice none 0 0] [(0, 1, w)] = some [w] := fun w h => fillL_1 rfl h
    repeat' (first | (exfalso; omega) | refine GW_seq ?_ | refine GW_line ?_ | refine Gw_nil ?_ | refine GN_seq ?_ | refine GN_blk ?_ | refine GW_block ?_ | refine GW_skip ?_ | refine GW_exit ?_ | refine GX_seq ?_ | refine GX_blk ?_ | refine GX_up rfl ?_ | refine GX_inv ?_ | refine GW_ret ?_ | refine GN_inv ?_ | refine GN_nil ?_ | refine GW_any rfl ?_ | refine Gp_nil ?_ | ((first | refine Gw_s fun K' hK' => ?_ | refine Gp_s fun K' hK' => ?_ | refine Gw_0 fun K' hK' => ?_ | intro K' hK'); (simp (disch := (first | (simp only [SD, SF, beq_self_eq_true, Nat.reduceLT, Nat.reduceAdd]; done) | ((fail_if_success (apply Bool.eq_iff_iff.2)); first | omega | (simp only [SD, SF, beq_self_eq_true, Nat.reduceLT, Nat.reduceAdd] <;> omega)) | fail)) only [↓SA, ↓GArg.ev, ↓evs, ↓evOpt, ↓evParts, ↓reduceIte, SB, SC, setL, if_true, if_false, Nat.reduceEqDiff, Nat.reduceAdd, Nat.reduceMul, reduceCtorEq, Int.reduceToNat, g29, f3, f6, f7, f8, hsa.ia, e1, hrow, hst]; refine G1_go (hK' _ _ ?_); clear hK' K')) | ((first | refine Gw_dt fun A B C D hA hB hC hD => ?_ | refine Gw_df fun A B C D hA hB hC hD => ?_ | refine GW_cd fun A B C D hA hB hC hD => ?_); (simp only [↓Tr.get_set, Nat.reduceEqDiff, if_true, if_false, ↓reduceIte, g29, f3, f6, f7, f8, hsa.ia, e1, hrow, hst]; first | (refine Gd_true (hA ?_); clear hA hB hC hD A B C D) | (refine Gd_false (hB ?_); clear hA hB hC hD A B C D) | (refine Gd_some (fun hc => hC ?_) (fun hc => hD ?_) <;> clear hA hB hC hD A B C D <;> (try simp only [decide_eq_true_eq, decide_eq_false_iff_not, Bool.not_eq_true', Bool.not_eq_false', Int.not_lt, Int.not_le, Bool.not_true, Bool.not_false, Bool.true_eq_false, Bool.false_eq_true, Decidable.not_not] at hc)))) | (refine Gw_u fun A hA => ?_; simp only [↓Tr.get_set, Nat.reduceEqDiff, if_true, if_false, ↓reduceIte, g29, f3, f6, f7, f8, hsa.ia, e1, hrow, hst]; refine Gu_mk (hA ?_); clear hA A) | (refine GR.mk ?_; simp only [gresults, ↓Tr.get_set, Option.bind_some, Nat.reduceEqDiff, if_true, if_false, ↓reduceIte, gld_1, gld_n, g29, f3, f6, f7, f8, hsa.ia, e1, hrow, hst]; refine ⟨_, rfl, ?_⟩; simp only [gone]))
    have hS2 : Same H ((H1.add (some (.cells [.slice none 0 0] 0 true))).put H1.len (.cells [w0] 0 true)) := hS.new _ _
    have hS12 : Same H1 ((H1.add (some (.cells [.slice none 0 0] 0 true))).put H1.len (.cells [w0] 0 true)) := (Same.refl hw1).new _ _
    have hl2 : ((H1.add (some (.cells [.slice none 0 0] 0 true))).put H1.len (.cells [w0] 0 true)).len = H1.len + 1 := by simp only [len_put, len_add]
    generalize (H1.add (some (.cells [.slice none 0 0] 0 true))).put H1.len (.cells [w0] 0 true) = H2 at *
    have hO0 : OS 5 5 H (H2.add (some (.cells [] 5 true))) (.slice (some ⟨H1.len + 1, 0, none⟩) 0 1) 0 [] := by
      rw [← hl2]; exact OS.made' hS2 rfl
    have r2 : RR (H2.add (some (.cells [] 5 true))) w0 l0 := r1.later hw1 (hS12.add _)
    refine Gw_s fun K' hK' => ?_
    simp (disch := (first | (simp only [SD, SF, beq_self_eq_true, Nat.reduceLT, Nat.reduceAdd]; done) | ((fail_if_success (apply Bool.eq_iff_iff.2)); first | omega | (simp only [SD, SF, beq_self_eq_true, Nat.reduceLT, Nat.reduceAdd] <;> omega)) | fail)) only [↓SA, ↓GArg.ev, ↓evs, ↓evOpt, ↓evParts, ↓reduceIte, SB, SC, setL, if_true, if_false, Nat.reduceEqDiff, Nat.reduceAdd, Nat.reduceMul, reduceCtorEq, Int.reduceToNat, f3, f6, f7, f8]
    obtain ⟨w', H3, e, hO3, hB3⟩ := hO0.appN (by decide) (by decide) r2 (b := 40) (by omega) (by omega)
    refine G1_eq e (hK' _ _ ?_)
    clear hK' K' e
    rw [Nat.zero_add, List.nil_append] at hO3
    have hf3 := hO3.flat
    have hT3 : TO H H3 v L := by
      have hTa : TO H (H2.add (some (.cells [] 5 true))) v L := hT.later (hS12.add _)
      have hn : ∀ k, k < H.len → ¬ k ∈ idOf (.slice (some ⟨H1.len + 1, 0, none⟩) 0 1) := fun k hk ha => by have := (hO0.ids ha).1; omega
      refine ⟨hTa.own.but hB3 hn (hTa.own.unit_ne hO0 (by decide)), fun x hx => (hTa.rows x hx).but hB3 hn fun a ha hb => ?_⟩
      have h1 := (hTa.rows x hx).ids ha
      have h2 := ((hT.later hS12).rows x hx).ids ha
      simp only [idOf, List.mem_singleton] at hb
      omega
    have hS3 := hO3.same
    have hb1 : fillL [.slice none 0 0] [(0, 1, w')] = some [w'] := fillL_1 rfl hf3
    have hb2 : fillL (List.replicate 1 (.slice none 0 0)) [(0, 1, .agg #[w'])] = some [w'] := by
      simp [fillL, Value.cells, hf3]
    repeat' (first | (exfalso; omega) | refine GW_seq ?_ | refine GW_line ?_ | refine Gw_nil ?_ | refine GN_seq ?_ | refine GN_blk ?_ | refine GW_block ?_ | refine GW_skip ?_ | refine GW_exit ?_ | refine GX_seq ?_ | refine GX_blk ?_ | refine GX_up rfl ?_ | refine GX_inv ?_ | refine GW_ret ?_ | refine GN_inv ?_ | refine GN_nil ?_ | refine GW_any rfl ?_ | refine Gp_nil ?_ | ((first | refine Gw_s fun K' hK' => ?_ | refine Gp_s fun K' hK' => ?_ | refine Gw_0 fun K' hK' => ?_ | intro K' hK'); (simp (disch := (first | (simp only [SD, SF, beq_self_eq_true, Nat.reduceLT, Nat.reduceAdd]; done) | ((fail_if_success (apply Bool.eq_iff_iff.2)); first | omega | (simp only [SD, SF, beq_self_eq_true, Nat.reduceLT, Nat.reduceAdd] <;> omega)) | fail)) only [↓SA, ↓GArg.ev, ↓evs, ↓evOpt, ↓evParts, ↓reduceIte, SB, SC, setL, if_true, if_false, Nat.reduceEqDiff, Nat.reduceAdd, Nat.reduceMul, reduceCtorEq, Int.reduceToNat, g29, f3, f6, f7, f8, hb1, hb2]; refine G1_go (hK' _ _ ?_); clear hK' K')) | ((first | refine Gw_dt fun A B C D hA hB hC hD => ?_ | refine Gw_df fun A B C D hA hB hC hD => ?_ | refine GW_cd fun A B C D hA hB hC hD => ?_); (simp only [↓Tr.get_set, Nat.reduceEqDiff, if_true, if_false, ↓reduceIte, g29, f3, f6, f7, f8, hb1, hb2]; first | (refine Gd_true (hA ?_); clear hA hB hC hD A B C D) | (refine Gd_false (hB ?_); clear hA hB hC hD A B C D) | (refine Gd_some (fun hc => hC ?_) (fun hc => hD ?_) <;> clear hA hB hC hD A B C D <;> (try simp only [decide_eq_true_eq, decide_eq_false_iff_not, Bool.not_eq_true', Bool.not_eq_false', Int.not_lt, Int.not_le, Bool.not_true, Bool.not_false, Bool.true_eq_false, Bool.false_eq_true, Decidable.not_not] at hc)))) | (refine Gw_u fun A hA => ?_; simp only [↓Tr.get_set, Nat.reduceEqDiff, if_true, if_false, ↓reduceIte, g29, f3, f6, f7, f8, hb1, hb2]; refine Gu_mk (hA ?_); clear hA A) | (refine GR.mk ?_; simp only [gresults, ↓Tr.get_set, Option.bind_some, Nat.reduceEqDiff, if_true, if_false, ↓reduceIte, gld_1, gld_n, g29, f3, f6, f7, f8, hb1, hb2]; refine ⟨_, rfl, ?_⟩; simp only [gone]))
    refine Gw_s fun K' hK' => ?_
    simp (disch := (first | (simp only [SD, SF, beq_self_eq_true, Nat.reduceLT, Nat.reduceAdd]; done) | ((fail_if_success (apply Bool.eq_iff_iff.2)); first | omega | (simp only [SD, SF, beq_self_eq_true, Nat.reduceLT, Nat.reduceAdd] <;> omega)) | fail)) only [↓SA, ↓GArg.ev, ↓evs, ↓evOpt, ↓evParts, ↓reduceIte, SB, SC, setL, if_true, if_false, Nat.reduceEqDiff, Nat.reduceAdd, Nat.reduceMul, reduceCtorEq, Int.reduceToNat, f3, f6, f7, f8]
    obtain ⟨v', H4, e, hT4, hB4⟩ := hT3.snoc hO3 (by omega)
    refine G1_eq e (hK' _ _ ?_)
    clear hK' K' e
    repeat' (first | (exfalso; omega) | refine GW_seq ?_ | refine GW_line ?_ | refine Gw_nil ?_ | refine GN_seq ?_ | refine GN_blk ?_ | refine GW_block ?_ | refine GW_skip ?_ | refine GW_exit ?_ | refine GX_seq ?_ | refine GX_blk ?_ | refine GX_up rfl ?_ | refine GX_inv ?_ | refine GW_ret ?_ | refine GN_inv ?_ | refine GN_nil ?_ | refine GW_any rfl ?_ | refine Gp_nil ?_ | ((first | refine Gw_s fun K' hK' => ?_ | refine Gp_s fun K' hK' => ?_ | refine Gw_0 fun K' hK' => ?_ | intro K' hK'); (simp (disch := (first | (simp only [SD, SF, beq_self_eq_true, Nat.reduceLT, Nat.reduceAdd]; done) | ((fail_if_success (apply Bool.eq_iff_iff.2)); first | omega | (simp only [SD, SF, beq_self_eq_true, Nat.reduceLT, Nat.reduceAdd] <;> omega)) | fail)) only [↓SA, ↓GArg.ev, ↓evs, ↓evOpt, ↓evParts, ↓reduceIte, SB, SC, setL, if_true, if_false, Nat.reduceEqDiff, Nat.reduceAdd, Nat.reduceMul, reduceCtorEq, Int.reduceToNat, g29, f3, f6, f7, f8]; refine G1_go (hK' _ _ ?_); clear hK' K')) | ((first | refine Gw_dt fun A B C D hA hB hC hD => ?_ | refine Gw_df fun A B C D hA hB hC hD => ?_ | refine GW_cd fun A B C D hA hB hC hD => ?_); (simp only [↓Tr.get_set, Nat.reduceEqDiff, if_true, if_false, ↓reduceIte, g29, f3, f6, f7, f8]; first | (refine Gd_true (hA ?_); clear hA hB hC hD A B C D) | (refine Gd_false (hB ?_); clear hA hB hC hD A B C D) | (refine Gd_some (fun hc => hC ?_) (fun hc => hD ?_) <;> clear hA hB hC hD A B C D <;> (try simp only [decide_eq_true_eq, decide_eq_false_iff_not, Bool.not_eq_true', Bool.not_eq_false', Int.not_lt, Int.not_le, Bool.not_true, Bool.not_false, Bool.true_eq_false, Bool.false_eq_true, Decidable.not_not] at hc)))) | (refine Gw_u fun A hA => ?_; simp only [↓Tr.get_set, Nat.reduceEqDiff, if_true, if_false, ↓reduceIte, g29, f3, f6, f7, f8]; refine Gu_mk (hA ?_); clear hA A) | (refine GR.mk ?_; simp only [gresults, ↓Tr.get_set, Option.bind_some, Nat.reduceEqDiff, if_true, if_false, ↓reduceIte, gld_1, gld_n, g29, f3, f6, f7, f8]; refine ⟨_, rfl, ?_⟩; simp only [gone]))
    refine hJ _ _ ⟨A.length - (j + 1), by omega, j + 1, v', L ++ [(w', l0)], rfl, by omega, ?_⟩
    simp only [↓Tr.get_set, Nat.reduceEqDiff, if_true, if_false, ↓reduceIte, Int.natCast_add, Int.cast_ofNat_Int, Int.natCast_zero, true_and, and_true, Option.some.injEq, Value.int.injEq, f6, f7]
    refine ⟨hT4, ?_⟩
    rw [List.map_append, hL, List.take_succ_eq_append_getElem (by simpa using hj1)]
    simp only [List.map_cons, List.map_nil, List.getElem_map]
    rw [← getElem!_pos A j hj1, hl0]
  · obtain rfl : j = A.length := by omega
    have e1 : (A.map (·.2)).take A.length = A.map (·.2) := List.take_of_length_le (by simp)
    rw [e1] at hL
    repeat' (first | (exfalso; omega) | refine GW_seq ?_ | refine GW_line ?_ | refine Gw_nil ?_ | refine GN_seq ?_ | refine GN_blk ?_ | refine GW_block ?_ | refine GW_skip ?_ | refine GW_exit ?_ | refine GX_seq ?_ | refine GX_blk ?_ | refine GX_up rfl ?_ | refine GX_inv ?_ | refine GW_ret ?_ | refine GN_inv ?_ | refine GN_nil ?_ | refine GW_any rfl ?_ | refine Gp_nil ?_ | ((first | refine Gw_s fun K' hK' => ?_ | refine Gp_s fun K' hK' => ?_ | refine Gw_0 fun K' hK' => ?_ | intro K' hK'); (simp (disch := (first | (simp only [SD, SF, beq_self_eq_true, Nat.reduceLT, Nat.reduceAdd]; done) | ((fail_if_success (apply Bool.eq_iff_iff.2)); first | omega | (simp only [SD, SF, beq_self_eq_true, Nat.reduceLT, Nat.reduceAdd] <;> omega)) | fail)) only [↓SA, ↓GArg.ev, ↓evs, ↓evOpt, ↓evParts, ↓reduceIte, SB, SC, setL, if_true, if_false, Nat.reduceEqDiff, Nat.reduceAdd, Nat.reduceMul, reduceCtorEq, Int.reduceToNat, g29, f3, f6, f7, f8]; refine G1_go (hK' _ _ ?_); clear hK' K')) | ((first | refine Gw_dt fun A B C D hA hB hC hD => ?_ | refine Gw_df fun A B C D hA hB hC hD => ?_ | refine GW_cd fun A B C D hA hB hC hD => ?_); (simp only [↓Tr.get_set, Nat.reduceEqDiff, if_true, if_false, ↓reduceIte, g29, f3, f6, f7, f8]; first | (refine Gd_true (hA ?_); clear hA hB hC hD A B C D) | (refine Gd_false (hB ?_); clear hA hB hC hD A B C D) | (refine Gd_some (fun hc => hC ?_) (fun hc => hD ?_) <;> clear hA hB hC hD A B C D <;> (try simp only [decide_eq_true_eq, decide_eq_false_iff_not, Bool.not_eq_true', Bool.not_eq_false', Int.not_lt, Int.not_le, Bool.not_true, Bool.not_false, Bool.true_eq_false, Bool.false_eq_true, Decidable.not_not] at hc)))) | (refine Gw_u fun A hA => ?_; simp only [↓Tr.get_set, Nat.reduceEqDiff, if_true, if_false, ↓reduceIte, g29, f3, f6, f7, f8]; refine Gu_mk (hA ?_); clear hA A) | (refine GR.mk ?_; simp only [gresults, ↓Tr.get_set, Option.bind_some, Nat.reduceEqDiff, if_true, if_false, ↓reduceIte, gld_1, gld_n, g29, f3, f6, f7, f8]; refine ⟨_, rfl, ?_⟩; simp only [gone]))
    exact hPost _ _ ⟨L, hT, hL⟩
end Go.Gh
