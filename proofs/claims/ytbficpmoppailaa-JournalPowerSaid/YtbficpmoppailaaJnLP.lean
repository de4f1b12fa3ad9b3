/-
  The law JournalPower, walked.
-/
import Derived.Test.YtbficpmoppailaaJnL
namespace Go.Gh
set_option linter.unusedSimpArgs false
set_option linter.unusedVariables false
open Go.RowKit
set_option maxRecDepth 4000

/-- whatever becomes of a state that is written with the power armed -/
theorem Calm.cmp_any {m : JM} {l : JL} {rs : List JR} (h : Calm m l rs) {p : List UInt8} (hp : p.length ≤ 60) (h1 : l.next ≤ 1000) (hg : l.gen ≤ 1000) {n : Nat} (hn : n < 1000) :
    ∃ m8 l8 nn ee lg rs8, compactJ {m with armed := true, left := (n : Int)} l p = (m8, l8, nn, ee) ∧ Good m8.data lg rs8 ∧ m8.data.length = m.data.length ∧ ((ee ≠ 0 ∧ nn = 0 ∧ (ee = 20 ∨ ee = 21) ∧ rs8 = rs) ∨ (ee = 0 ∧ nn < 4611686018427387904 ∧ rs8 = [⟨nn, true, p⟩])) := by
  by_cases hfit : 30 + p.length < m.size
  · obtain ⟨a1, a2⟩ := h.compact_armed (p := p) (n := (n : Int)) (by omega) (by omega) hfit (by omega) (by omega) (by omega)
    by_cases hw : 33 + (p.length : Int) ≤ n
    · obtain ⟨m', e, g, hl, _⟩ := a1 hw
      exact ⟨m', _, _, _, _, _, e, g, hl, .inr ⟨rfl, by omega, rfl⟩⟩
    · obtain ⟨m', e, g, hl, _⟩ := a2 (by omega)
      exact ⟨m', _, _, _, _, _, e, g, hl, .inl ⟨by decide, rfl, .inr rfl, rfl⟩⟩
  · exact ⟨_, _, _, _, l, rs, cmp_full (m := {m with armed := true, left := (n : Int)}) (by omega) hfit, h.good, rfl, .inl ⟨by decide, rfl, .inl rfl, rfl⟩⟩
theorem Calm.app_any {m : JM} {l : JL} {rs : List JR} (h : Calm m l rs) {p : List UInt8} (hp : p.length ≤ 60) (h1 : l.next ≤ 1000) {n : Nat} (hn : n < 1000) :
    ∃ m8 l8 nn ee lg rs8, appendJ {m with armed := true, left := (n : Int)} l p = (m8, l8, nn, ee) ∧ Good m8.data lg rs8 ∧ m8.data.length = m.data.length ∧ ((ee ≠ 0 ∧ nn = 0 ∧ (ee = 20 ∨ ee = 21) ∧ rs8 = rs) ∨ (ee = 0 ∧ nn < 4611686018427387904 ∧ rs8 = rs ++ [⟨nn, false, p⟩])) := by
  by_cases hfit : l.fin + 17 + p.length < m.size
  · obtain ⟨a1, a2⟩ := h.append_armed (p := p) (n := (n : Int)) (by omega) (by omega) hfit (by omega) (by omega)
    by_cases hw : 19 + (p.length : Int) ≤ n
    · obtain ⟨m', e, g, hl, _⟩ := a1 hw
      exact ⟨m', _, _, _, _, _, e, g, hl, .inr ⟨rfl, by omega, rfl⟩⟩
    · obtain ⟨m', e, g, hl, _⟩ := a2 (by omega)
      exact ⟨m', _, _, _, _, _, e, g, hl, .inl ⟨by decide, rfl, .inr rfl, rfl⟩⟩
  · exact ⟨_, _, _, _, l, rs, app_full (m := {m with armed := true, left := (n : Int)}) (by omega) hfit, h.good, rfl, .inl ⟨by decide, rfl, .inl rfl, rfl⟩⟩
set_option maxHeartbeats 4000000 in
theorem power_ok {H : GHeap} (hw : H.wf) {v : Value} {L : List WrE} (hv : GArg1 H 2 v L.length (L.flatMap wrC)) (hL : ∀ x ∈ L, RB H x.v x.p ∧ x.p.length ≤ maxLen) (hll : L.length ≤ maxLen) {size cutn : Nat} (hs : size ≤ 65535) (hc16 : cutn ≤ 65535) :
    ∃ r H', gev G 4 [.int .u16 size, v, .int .u16 cutn] H = some (r, H') ∧ r = .bool true := by
  refine gev_GW (f := 4) rfl fun Post hPost => ?_
  have hll : L.length ≤ 9223372036854775807 := hll
  have hsl := hv.rd.isSl
  simp only [frameOf, Nat.reduceAdd]
  repeat' (first | refine GW_seq ?_ | refine GW_line ?_ | refine Gw_nil ?_ | refine GN_seq ?_ | refine GN_blk ?_ | refine GW_block ?_ | refine GW_skip ?_ | refine GW_exit ?_ | refine GX_seq ?_ | refine GX_blk ?_ | refine GX_up rfl ?_ | refine GX_inv ?_ | refine GW_ret ?_ | refine GN_inv ?_ | refine GN_nil ?_ | refine GW_any rfl ?_ | refine Gp_nil ?_ | ((first | refine Gw_s fun K' hK' => ?_ | refine Gp_s fun K' hK' => ?_ | refine Gw_0 fun K' hK' => ?_ | intro K' hK'); (simp (disch := (first | (simp only [SD, SF, beq_self_eq_true, Nat.reduceLT, Nat.reduceAdd]; done) | ((fail_if_success (apply Bool.eq_iff_iff.2)); first | omega | (simp only [SD, SF, beq_self_eq_true, Nat.reduceLT, Nat.reduceAdd] <;> omega)))) only [↓SA, ↓GArg.ev, ↓evs, ↓evOpt, ↓evParts, ↓reduceIte, SB, SC, setL, if_true, if_false, Nat.reduceEqDiff, Nat.reduceAdd, Nat.reduceMul, reduceCtorEq, Int.reduceToNat, g4]; refine G1_go (hK' _ _ ?_); clear hK' K')) | ((first | refine Gw_dt fun A B C D hA hB hC hD => ?_ | refine Gw_df fun A B C D hA hB hC hD => ?_ | refine GW_cd fun A B C D hA hB hC hD => ?_); (simp only [↓Tr.get_set, Nat.reduceEqDiff, if_true, if_false, ↓reduceIte, g4]; first | (refine Gd_true (hA ?_); clear hA hB hC hD A B C D) | (refine Gd_false (hB ?_); clear hA hB hC hD A B C D) | (refine Gd_some (fun hc => hC ?_) (fun hc => hD ?_) <;> clear hA hB hC hD A B C D <;> (try simp only [decide_eq_true_eq, decide_eq_false_iff_not, Bool.not_eq_true', Bool.not_eq_false', Int.not_lt, Int.not_le, Bool.not_true, Bool.not_false, Bool.true_eq_false, Bool.false_eq_true, Decidable.not_not] at hc)))) | (refine Gw_u fun A hA => ?_; simp only [↓Tr.get_set, Nat.reduceEqDiff, if_true, if_false, ↓reduceIte, g4]; refine Gu_mk (hA ?_); clear hA A) | (refine GR.mk ?_; simp only [gresults, ↓Tr.get_set, Option.bind_some, Nat.reduceEqDiff, if_true, if_false, ↓reduceIte, gld_1, gld_n, g4]; refine ⟨_, rfl, ?_⟩; simp only [gone]))
  refine Gw_s fun K' hK' => G1_call (by simp only [gtarget, ↓GArg.ev, ↓evs, ↓Tr.get_set, Nat.reduceEqDiff, if_true, if_false, ↓reduceIte, Option.map_some]; rfl) (awake_ok H) fun r0 H0 hq => hK' _ _ ?_
  obtain ⟨rfl, rfl⟩ := hq
  have q1 : ∀ e, gbin .rem e (.int .i64 (size : Int)) (.int .i64 600) = some (.int .i64 ((size % 600 : Nat) : Int)) := fun e => gb_remN (b := 600) (by decide)
  have q2 : ∀ e, gbin .rem e (.int .i64 (cutn : Int)) (.int .i64 100) = some (.int .i64 ((cutn % 100 : Nat) : Int)) := fun e => gb_remN (b := 100) (by decide)
  have hmod : size % 600 < 600 := Nat.mod_lt _ (by decide)
  have hmod2 : cutn % 100 < 100 := Nat.mod_lt _ (by decide)
  generalize hS : size % 600 = z at *
  generalize hcz : cutn % 100 = cz at *
  repeat' (first | refine GW_seq ?_ | refine GW_line ?_ | refine Gw_nil ?_ | refine GN_seq ?_ | refine GN_blk ?_ | refine GW_block ?_ | refine GW_skip ?_ | refine GW_exit ?_ | refine GX_seq ?_ | refine GX_blk ?_ | refine GX_up rfl ?_ | refine GX_inv ?_ | refine GW_ret ?_ | refine GN_inv ?_ | refine GN_nil ?_ | refine GW_any rfl ?_ | refine Gp_nil ?_ | ((first | refine Gw_s fun K' hK' => ?_ | refine Gp_s fun K' hK' => ?_ | refine Gw_0 fun K' hK' => ?_ | intro K' hK'); (simp (disch := (first | (simp only [SD, SF, beq_self_eq_true, Nat.reduceLT, Nat.reduceAdd]; done) | ((fail_if_success (apply Bool.eq_iff_iff.2)); first | omega | (simp only [SD, SF, beq_self_eq_true, Nat.reduceLT, Nat.reduceAdd] <;> omega)))) only [↓SA, ↓GArg.ev, ↓evs, ↓evOpt, ↓evParts, ↓reduceIte, SB, SC, setL, if_true, if_false, Nat.reduceEqDiff, Nat.reduceAdd, Nat.reduceMul, reduceCtorEq, Int.reduceToNat, g4, q1]; refine G1_go (hK' _ _ ?_); clear hK' K')) | ((first | refine Gw_dt fun A B C D hA hB hC hD => ?_ | refine Gw_df fun A B C D hA hB hC hD => ?_ | refine GW_cd fun A B C D hA hB hC hD => ?_); (simp only [↓Tr.get_set, Nat.reduceEqDiff, if_true, if_false, ↓reduceIte, g4, q1]; first | (refine Gd_true (hA ?_); clear hA hB hC hD A B C D) | (refine Gd_false (hB ?_); clear hA hB hC hD A B C D) | (refine Gd_some (fun hc => hC ?_) (fun hc => hD ?_) <;> clear hA hB hC hD A B C D <;> (try simp only [decide_eq_true_eq, decide_eq_false_iff_not, Bool.not_eq_true', Bool.not_eq_false', Int.not_lt, Int.not_le, Bool.not_true, Bool.not_false, Bool.true_eq_false, Bool.false_eq_true, Decidable.not_not] at hc)))) | (refine Gw_u fun A hA => ?_; simp only [↓Tr.get_set, Nat.reduceEqDiff, if_true, if_false, ↓reduceIte, g4, q1]; refine Gu_mk (hA ?_); clear hA A) | (refine GR.mk ?_; simp only [gresults, ↓Tr.get_set, Option.bind_some, Nat.reduceEqDiff, if_true, if_false, ↓reduceIte, gld_1, gld_n, g4, q1]; refine ⟨_, rfl, ?_⟩; simp only [gone]))
  refine Gw_s fun K' hK' => G1_call (by simp only [gtarget, ↓GArg.ev, ↓evs, ↓Tr.get_set, Nat.reduceEqDiff, if_true, if_false, ↓reduceIte, Option.map_some]; rfl) (newmem_ok hw (size := 64 + (z : Int)) (by omega)) fun r1 H1 hq => hK' _ _ ?_
  unfold NewOut at hq
  rw [if_neg (by omega)] at hq
  obtain ⟨i, j, rfl, hM1, hS1, hi, hj⟩ := hq
  rw [show (64 + (z : Int)).toNat = 64 + z by omega] at hM1
  generalize h2s : 2 * (64 + z) + 1 = gc at hM1
  have hg1 := good_new (n := 64 + z) (by omega)
  repeat' (first | refine GW_seq ?_ | refine GW_line ?_ | refine Gw_nil ?_ | refine GN_seq ?_ | refine GN_blk ?_ | refine GW_block ?_ | refine GW_skip ?_ | refine GW_exit ?_ | refine GX_seq ?_ | refine GX_blk ?_ | refine GX_up rfl ?_ | refine GX_inv ?_ | refine GW_ret ?_ | refine GN_inv ?_ | refine GN_nil ?_ | refine GW_any rfl ?_ | refine Gp_nil ?_ | ((first | refine Gw_s fun K' hK' => ?_ | refine Gp_s fun K' hK' => ?_ | refine Gw_0 fun K' hK' => ?_ | intro K' hK'); (simp (disch := (first | (simp only [SD, SF, beq_self_eq_true, Nat.reduceLT, Nat.reduceAdd]; done) | ((fail_if_success (apply Bool.eq_iff_iff.2)); first | omega | (simp only [SD, SF, beq_self_eq_true, Nat.reduceLT, Nat.reduceAdd] <;> omega)))) only [↓SA, ↓GArg.ev, ↓evs, ↓evOpt, ↓evParts, ↓reduceIte, SB, SC, setL, if_true, if_false, Nat.reduceEqDiff, Nat.reduceAdd, Nat.reduceMul, reduceCtorEq, Int.reduceToNat, g4]; refine G1_go (hK' _ _ ?_); clear hK' K')) | ((first | refine Gw_dt fun A B C D hA hB hC hD => ?_ | refine Gw_df fun A B C D hA hB hC hD => ?_ | refine GW_cd fun A B C D hA hB hC hD => ?_); (simp only [↓Tr.get_set, Nat.reduceEqDiff, if_true, if_false, ↓reduceIte, g4]; first | (refine Gd_true (hA ?_); clear hA hB hC hD A B C D) | (refine Gd_false (hB ?_); clear hA hB hC hD A B C D) | (refine Gd_some (fun hc => hC ?_) (fun hc => hD ?_) <;> clear hA hB hC hD A B C D <;> (try simp only [decide_eq_true_eq, decide_eq_false_iff_not, Bool.not_eq_true', Bool.not_eq_false', Int.not_lt, Int.not_le, Bool.not_true, Bool.not_false, Bool.true_eq_false, Bool.false_eq_true, Decidable.not_not] at hc)))) | (refine Gw_u fun A hA => ?_; simp only [↓Tr.get_set, Nat.reduceEqDiff, if_true, if_false, ↓reduceIte, g4]; refine Gu_mk (hA ?_); clear hA A) | (refine GR.mk ?_; simp only [gresults, ↓Tr.get_set, Option.bind_some, Nat.reduceEqDiff, if_true, if_false, ↓reduceIte, gld_1, gld_n, g4]; refine ⟨_, rfl, ?_⟩; simp only [gone]))
  refine Gw_s fun K' hK' => G1_call (by simp only [gtarget, ↓GArg.ev, ↓evs, ↓Tr.get_set, Nat.reduceEqDiff, if_true, if_false, ↓reduceIte, Option.map_some]; rfl) (jopen_ok hS1.wf hM1) fun r2 H2 hq => hK' _ _ ?_
  unfold JOpenOut at hq
  rw [if_neg Bool.false_ne_true, hg1.open_] at hq
  obtain ⟨k, vr, LR, rfl, hk, hk2, hT2, hLR⟩ := hq
  have hS2 := hT2.own.same
  have hki : k ≠ i := by have := mine_lt hS1.wf hM1.obj; omega
  have hJ2 : JAt H2 i j gc k ⟨newB (64 + z), false, 0, false⟩ ⟨0, 1, 13, 1, false, false⟩ := ⟨hS2.wf, hM1.later hS1.wf hS2, hk2, hki⟩
  have hC2 : Calm ⟨newB (64 + z), false, 0, false⟩ ⟨0, 1, 13, 1, false, false⟩ [] := ⟨hg1, rfl, rfl, rfl⟩
  generalize (⟨newB (64 + z), false, 0, false⟩ : JM) = m0 at *
  have hS02 := hS1.trans hS2
  have hjy : ∀ a, a < H.len → ¬ jo i j k a := by
    intro a ha
    have := hS1.len
    rintro (e | e | e) <;> omega
  by_cases hL0 : L.length = 0
  · repeat' (first | (exfalso; omega) | refine GW_seq ?_ | refine GW_line ?_ | refine Gw_nil ?_ | refine GN_seq ?_ | refine GN_blk ?_ | refine GW_block ?_ | refine GW_skip ?_ | refine GW_exit ?_ | refine GX_seq ?_ | refine GX_blk ?_ | refine GX_up rfl ?_ | refine GX_inv ?_ | refine GW_ret ?_ | refine GN_inv ?_ | refine GN_nil ?_ | refine GW_any rfl ?_ | refine Gp_nil ?_ | ((first | refine Gw_s fun K' hK' => ?_ | refine Gp_s fun K' hK' => ?_ | refine Gw_0 fun K' hK' => ?_ | intro K' hK'); (simp (disch := (first | (simp only [SD, SF, beq_self_eq_true, Nat.reduceLT, Nat.reduceAdd]; done) | ((fail_if_success (apply Bool.eq_iff_iff.2)); first | omega | (simp only [SD, SF, beq_self_eq_true, Nat.reduceLT, Nat.reduceAdd] <;> omega)))) only [↓SA, ↓GArg.ev, ↓evs, ↓evOpt, ↓evParts, ↓reduceIte, SB, SC, setL, if_true, if_false, Nat.reduceEqDiff, Nat.reduceAdd, Nat.reduceMul, reduceCtorEq, Int.reduceToNat, g4, hsl.len]; refine G1_go (hK' _ _ ?_); clear hK' K')) | ((first | refine Gw_dt fun A B C D hA hB hC hD => ?_ | refine Gw_df fun A B C D hA hB hC hD => ?_ | refine GW_cd fun A B C D hA hB hC hD => ?_); (simp only [↓Tr.get_set, Nat.reduceEqDiff, if_true, if_false, ↓reduceIte, g4, hsl.len]; first | (refine Gd_true (hA ?_); clear hA hB hC hD A B C D) | (refine Gd_false (hB ?_); clear hA hB hC hD A B C D) | (refine Gd_some (fun hc => hC ?_) (fun hc => hD ?_) <;> clear hA hB hC hD A B C D <;> (try simp only [decide_eq_true_eq, decide_eq_false_iff_not, Bool.not_eq_true', Bool.not_eq_false', Int.not_lt, Int.not_le, Bool.not_true, Bool.not_false, Bool.true_eq_false, Bool.false_eq_true, Decidable.not_not] at hc)))) | (refine Gw_u fun A hA => ?_; simp only [↓Tr.get_set, Nat.reduceEqDiff, if_true, if_false, ↓reduceIte, g4, hsl.len]; refine Gu_mk (hA ?_); clear hA A) | (refine GR.mk ?_; simp only [gresults, ↓Tr.get_set, Option.bind_some, Nat.reduceEqDiff, if_true, if_false, ↓reduceIte, gld_1, gld_n, g4, hsl.len]; refine ⟨_, rfl, ?_⟩; simp only [gone]))
    exact hPost _ _ rfl
  obtain ⟨v1, s1, hv1, hi1⟩ := (hv.same hw hS02).first wrC_len (k := .i64) (b := min (L.length : Int) 16) (by omega) (by omega)
  have hM16 : L.take (min (L.length : Int) 16).toNat = L.take 16 := by
    by_cases h : L.length ≤ 16
    · rw [show (min (L.length : Int) 16).toNat = L.length by omega, List.take_length, List.take_of_length_le h]
    · rw [show (min (L.length : Int) 16).toNat = 16 by omega]
  rw [hM16] at hv1
  have hMl : (L.take 16).length ≤ 16 ∧ 0 < (L.take 16).length := by rw [List.length_take]; omega
  have hMR : ∀ x ∈ L.take 16, RB H x.v x.p ∧ x.p.length ≤ maxLen := fun x hx => hL x (List.mem_of_mem_take hx)
  generalize L.take 16 = M at *
  have hsl1 := hv1.rd.isSl
  obtain ⟨v2, s2, hv2, hi2⟩ := hv1.first wrC_len (k := .i64) (b := (M.length : Int) - 1) (by omega) (by omega)
  have hsl2 := hv2.rd.isSl
  have hM2l : (M.take ((M.length : Int) - 1).toNat).length = M.length - 1 := by rw [List.length_take]; omega
  have hM2R : ∀ x ∈ M.take ((M.length : Int) - 1).toNat, RB H x.v x.p ∧ x.p.length ≤ maxLen := fun x hx => hMR x (List.mem_of_mem_take hx)
  generalize M.take ((M.length : Int) - 1).toNat = M2 at *
  repeat' (first | (exfalso; omega) | refine GW_seq ?_ | refine GW_line ?_ | refine Gw_nil ?_ | refine GN_seq ?_ | refine GN_blk ?_ | refine GW_block ?_ | refine GW_skip ?_ | refine GW_exit ?_ | refine GX_seq ?_ | refine GX_blk ?_ | refine GX_up rfl ?_ | refine GX_inv ?_ | refine GW_ret ?_ | refine GN_inv ?_ | refine GN_nil ?_ | refine GW_any rfl ?_ | refine Gp_nil ?_ | ((first | refine Gw_s fun K' hK' => ?_ | refine Gp_s fun K' hK' => ?_ | refine Gw_0 fun K' hK' => ?_ | intro K' hK'); (simp (disch := (first | (simp only [SD, SF, beq_self_eq_true, Nat.reduceLT, Nat.reduceAdd]; done) | ((fail_if_success (apply Bool.eq_iff_iff.2)); first | omega | (simp only [SD, SF, beq_self_eq_true, Nat.reduceLT, Nat.reduceAdd] <;> omega)))) only [↓SA, ↓GArg.ev, ↓evs, ↓evOpt, ↓evParts, ↓reduceIte, SB, SC, setL, if_true, if_false, Nat.reduceEqDiff, Nat.reduceAdd, Nat.reduceMul, reduceCtorEq, Int.reduceToNat, g4, hsl.len, hsl1.len, hsl2.len, s1, s2]; refine G1_go (hK' _ _ ?_); clear hK' K')) | ((first | refine Gw_dt fun A B C D hA hB hC hD => ?_ | refine Gw_df fun A B C D hA hB hC hD => ?_ | refine GW_cd fun A B C D hA hB hC hD => ?_); (simp only [↓Tr.get_set, Nat.reduceEqDiff, if_true, if_false, ↓reduceIte, g4, hsl.len, hsl1.len, hsl2.len, s1, s2]; first | (refine Gd_true (hA ?_); clear hA hB hC hD A B C D) | (refine Gd_false (hB ?_); clear hA hB hC hD A B C D) | (refine Gd_some (fun hc => hC ?_) (fun hc => hD ?_) <;> clear hA hB hC hD A B C D <;> (try simp only [decide_eq_true_eq, decide_eq_false_iff_not, Bool.not_eq_true', Bool.not_eq_false', Int.not_lt, Int.not_le, Bool.not_true, Bool.not_false, Bool.true_eq_false, Bool.false_eq_true, Decidable.not_not] at hc)))) | (refine Gw_u fun A hA => ?_; simp only [↓Tr.get_set, Nat.reduceEqDiff, if_true, if_false, ↓reduceIte, g4, hsl.len, hsl1.len, hsl2.len, s1, s2]; refine Gu_mk (hA ?_); clear hA A) | (refine GR.mk ?_; simp only [gresults, ↓Tr.get_set, Option.bind_some, Nat.reduceEqDiff, if_true, if_false, ↓reduceIte, gld_1, gld_n, g4, hsl.len, hsl1.len, hsl2.len, s1, s2]; refine ⟨_, rfl, ?_⟩; simp only [gone]))
  refine GW_loop (fun q fr H3 => ∃ (n : Nat) (m : JM) (l : JL) (rs : List JR), q = 16 - n ∧ n ≤ M2.length ∧ fr.get 1 = some (v1) ∧ fr.get 2 = some (.int .u16 cutn) ∧ fr.get 7 = some (ptr i) ∧ fr.get 9 = some (ptr k) ∧ fr.get 57 = some (v2) ∧ fr.get 58 = some (.int .i64 M2.length) ∧ fr.get 59 = some (.int .i64 n) ∧
    JAt H3 i j gc k m l ∧ Calm m l rs ∧ But (jo i j k) H2 H3 ∧ l.next ≤ n + 1 ∧ l.gen ≤ n + 1 ∧ rs.length ≤ n) ?_ 16 ?_
  case refine_2 =>
    refine ⟨0, m0, ⟨0, 1, 13, 1, false, false⟩, [], by omega, by omega, ?_⟩
    simp only [↓Tr.get_set, Nat.reduceEqDiff, if_true, if_false, ↓reduceIte, Int.natCast_add, Int.cast_ofNat_Int, Int.natCast_zero, true_and, and_true, Option.some.injEq, Value.int.injEq]
    exact ⟨hJ2, hC2, But.refl hS2.wf, by omega, by omega, by simp⟩
  rintro q fr H3 ⟨n, m, l, rs, rfl, hn, f1, f2, f7, f9, f57, f58, f59, hJ, hC, hB, hnx, hgn, hrl⟩ J hJJ
  have hS3 := hB.same hS02 hjy
  have hw3 := hJ.wf
  have hids2 : ∀ a ∈ idOf v2, a < H.len := fun a ha => GArg1.ids hw hv a (hi1 a (hi2 a ha))
  have hids1 : ∀ a ∈ idOf v1, a < H.len := fun a ha => GArg1.ids hw hv a (hi1 a ha)
  have hv2' := hv2.but hS2.wf hB (fun a ha => hjy a (hids2 a ha))
  have hv1' := hv1.but hS2.wf hB (fun a ha => hjy a (hids1 a ha))
  have hfl := hC.good.fin_lt
  have hbg := hJ.mem.big
  by_cases hnl : n < M2.length
  · obtain ⟨hpR, hpl⟩ := hM2R M2[n]! (by rw [getElem!_pos M2 n hnl]; exact List.getElem_mem hnl)
    have hpl : M2[n]!.p.length ≤ 9223372036854775807 := hpl
    have hrow := hv2'.rd.rowN wrC_len (by decide) hnl
    have hS4 := (Same.refl hw3).new (.cells [.bool false, .slice none 0 0] 0 true) (.cells [.bool M2[n]!.c, M2[n]!.v] 0 true)
    have hfv : flatV M2[n]!.v = true := hpR.flat
    have hlim3 := hw3.1
    simp only [wrC] at hrow
    have hst : gsetn [.bool false, .slice none 0 0] 0 2 (.agg #[.bool M2[n]!.c, M2[n]!.v]) = some [.bool M2[n]!.c, M2[n]!.v] := gsetn_all rfl rfl (by simp only [List.all_cons, List.all_nil, flatV_bool, hfv, Bool.and_self])
    have hpv4 := (hpR.same_ hw hS3).same_ hw3 hS4
    have hJ4 := hJ.later hS4
    have hB4 := hB.trans (But.of (S := jo i j k) hS4)
    repeat' (first | (exfalso; omega) | refine GW_seq ?_ | refine GW_line ?_ | refine Gw_nil ?_ | refine GN_seq ?_ | refine GN_blk ?_ | refine GW_block ?_ | refine GW_skip ?_ | refine GW_exit ?_ | refine GX_seq ?_ | refine GX_blk ?_ | refine GX_up rfl ?_ | refine GX_inv ?_ | refine GW_ret ?_ | refine GN_inv ?_ | refine GN_nil ?_ | refine GW_any rfl ?_ | refine Gp_nil ?_ | ((first | refine Gw_s fun K' hK' => ?_ | refine Gp_s fun K' hK' => ?_ | refine Gw_0 fun K' hK' => ?_ | intro K' hK'); (simp (disch := (first | (simp only [SD, SF, beq_self_eq_true, Nat.reduceLT, Nat.reduceAdd]; done) | ((fail_if_success (apply Bool.eq_iff_iff.2)); first | omega | (simp only [SD, SF, beq_self_eq_true, Nat.reduceLT, Nat.reduceAdd] <;> omega)))) only [↓SA, ↓GArg.ev, ↓evs, ↓evOpt, ↓evParts, ↓reduceIte, SB, SC, setL, if_true, if_false, Nat.reduceEqDiff, Nat.reduceAdd, Nat.reduceMul, reduceCtorEq, Int.reduceToNat, g4, f1, f2, f7, f9, f57, f58, f59, hsl2.len, hsl2.ia, hrow, hst]; refine G1_go (hK' _ _ ?_); clear hK' K')) | ((first | refine Gw_dt fun A B C D hA hB hC hD => ?_ | refine Gw_df fun A B C D hA hB hC hD => ?_ | refine GW_cd fun A B C D hA hB hC hD => ?_); (simp only [↓Tr.get_set, Nat.reduceEqDiff, if_true, if_false, ↓reduceIte, g4, f1, f2, f7, f9, f57, f58, f59, hsl2.len, hsl2.ia, hrow, hst]; first | (refine Gd_true (hA ?_); clear hA hB hC hD A B C D) | (refine Gd_false (hB ?_); clear hA hB hC hD A B C D) | (refine Gd_some (fun hc => hC ?_) (fun hc => hD ?_) <;> clear hA hB hC hD A B C D <;> (try simp only [decide_eq_true_eq, decide_eq_false_iff_not, Bool.not_eq_true', Bool.not_eq_false', Int.not_lt, Int.not_le, Bool.not_true, Bool.not_false, Bool.true_eq_false, Bool.false_eq_true, Decidable.not_not] at hc)))) | (refine Gw_u fun A hA => ?_; simp only [↓Tr.get_set, Nat.reduceEqDiff, if_true, if_false, ↓reduceIte, g4, f1, f2, f7, f9, f57, f58, f59, hsl2.len, hsl2.ia, hrow, hst]; refine Gu_mk (hA ?_); clear hA A) | (refine GR.mk ?_; simp only [gresults, ↓Tr.get_set, Option.bind_some, Nat.reduceEqDiff, if_true, if_false, ↓reduceIte, gld_1, gld_n, g4, f1, f2, f7, f9, f57, f58, f59, hsl2.len, hsl2.ia, hrow, hst]; refine ⟨_, rfl, ?_⟩; simp only [gone]))
    all_goals
      refine Gw_s fun K' hK' => G1_call (by simp only [gtarget, ↓GArg.ev, ↓evs, ↓Tr.get_set, Nat.reduceEqDiff, if_true, if_false, ↓reduceIte, Option.map_some, f1, f2, f7, f9, f57, f58, f59]; rfl) (cut_ok hpv4 hpl) fun pv Hc hq => hK' _ _ ?_
      obtain ⟨hpv, hpi, rfl⟩ := hq
      have hpj : ∀ a ∈ idOf pv, ¬ jo i j k a := fun a ha => hjy a (GArg1.ids hw hpR a (hpi a ha))
      generalize hP : M2[n]!.p.take 60 = P at *
      have hP60 : P.length ≤ 60 := by rw [← hP]; simp; omega
      have hpv : RB _ pv P := hpv
    case pos.refine_1.refine_1 =>
      refine Gw_s fun K' hK' => G1_call (by simp only [gtarget, ↓GArg.ev, ↓evs, ↓Tr.get_set, Nat.reduceEqDiff, if_true, if_false, ↓reduceIte, Option.map_some, f1, f2, f7, f9, f57, f58, f59]; rfl) (compact_ok hJ4 hC.good.bank (by omega) hpv hpj (by omega)) fun r5 H5 hq => hK' _ _ ?_
      obtain ⟨rfl, hJ5, hB5⟩ := hq
      by_cases hfit : 30 + P.length < m.size
      · obtain ⟨m', e1, hC5, hdl⟩ := hC.compact (p := P) (by omega) (by omega) hfit (by omega)
        rw [e1] at hJ5
        repeat' (first | (exfalso; omega) | refine GW_seq ?_ | refine GW_line ?_ | refine Gw_nil ?_ | refine GN_seq ?_ | refine GN_blk ?_ | refine GW_block ?_ | refine GW_skip ?_ | refine GW_exit ?_ | refine GX_seq ?_ | refine GX_blk ?_ | refine GX_up rfl ?_ | refine GX_inv ?_ | refine GW_ret ?_ | refine GN_inv ?_ | refine GN_nil ?_ | refine GW_any rfl ?_ | refine Gp_nil ?_ | ((first | refine Gw_s fun K' hK' => ?_ | refine Gp_s fun K' hK' => ?_ | refine Gw_0 fun K' hK' => ?_ | intro K' hK'); (simp (disch := (first | (simp only [SD, SF, beq_self_eq_true, Nat.reduceLT, Nat.reduceAdd]; done) | ((fail_if_success (apply Bool.eq_iff_iff.2)); first | omega | (simp only [SD, SF, beq_self_eq_true, Nat.reduceLT, Nat.reduceAdd] <;> omega)))) only [↓SA, ↓GArg.ev, ↓evs, ↓evOpt, ↓evParts, ↓reduceIte, SB, SC, setL, if_true, if_false, Nat.reduceEqDiff, Nat.reduceAdd, Nat.reduceMul, reduceCtorEq, Int.reduceToNat, g4, f1, f2, f7, f9, f57, f58, f59]; refine G1_go (hK' _ _ ?_); clear hK' K')) | ((first | refine Gw_dt fun A B C D hA hB hC hD => ?_ | refine Gw_df fun A B C D hA hB hC hD => ?_ | refine GW_cd fun A B C D hA hB hC hD => ?_); (simp only [↓Tr.get_set, Nat.reduceEqDiff, if_true, if_false, ↓reduceIte, g4, f1, f2, f7, f9, f57, f58, f59]; first | (refine Gd_true (hA ?_); clear hA hB hC hD A B C D) | (refine Gd_false (hB ?_); clear hA hB hC hD A B C D) | (refine Gd_some (fun hc => hC ?_) (fun hc => hD ?_) <;> clear hA hB hC hD A B C D <;> (try simp only [decide_eq_true_eq, decide_eq_false_iff_not, Bool.not_eq_true', Bool.not_eq_false', Int.not_lt, Int.not_le, Bool.not_true, Bool.not_false, Bool.true_eq_false, Bool.false_eq_true, Decidable.not_not] at hc)))) | (refine Gw_u fun A hA => ?_; simp only [↓Tr.get_set, Nat.reduceEqDiff, if_true, if_false, ↓reduceIte, g4, f1, f2, f7, f9, f57, f58, f59]; refine Gu_mk (hA ?_); clear hA A) | (refine GR.mk ?_; simp only [gresults, ↓Tr.get_set, Option.bind_some, Nat.reduceEqDiff, if_true, if_false, ↓reduceIte, gld_1, gld_n, g4, f1, f2, f7, f9, f57, f58, f59]; refine ⟨_, rfl, ?_⟩; simp only [gone]))
        refine hJJ _ _ ⟨16 - (n + 1), by omega, n + 1, m', l.cmp P, [⟨l.next, true, P⟩], rfl, by omega, ?_⟩
        simp only [↓Tr.get_set, Nat.reduceEqDiff, if_true, if_false, ↓reduceIte, Int.natCast_add, Int.cast_ofNat_Int, Int.natCast_zero, true_and, and_true, Option.some.injEq, Value.int.injEq, f1, f2, f7, f9, f57, f58]
        exact ⟨hJ5, hC5, hB4.trans hB5, by simp only [JL.cmp]; omega, by simp only [JL.cmp]; omega, by simp⟩
      · have e1 := cmp_full (m := m) (l := l) (p := P) (by omega) hfit
        rw [e1] at hJ5
        repeat' (first | (exfalso; omega) | refine GW_seq ?_ | refine GW_line ?_ | refine Gw_nil ?_ | refine GN_seq ?_ | refine GN_blk ?_ | refine GW_block ?_ | refine GW_skip ?_ | refine GW_exit ?_ | refine GX_seq ?_ | refine GX_blk ?_ | refine GX_up rfl ?_ | refine GX_inv ?_ | refine GW_ret ?_ | refine GN_inv ?_ | refine GN_nil ?_ | refine GW_any rfl ?_ | refine Gp_nil ?_ | ((first | refine Gw_s fun K' hK' => ?_ | refine Gp_s fun K' hK' => ?_ | refine Gw_0 fun K' hK' => ?_ | intro K' hK'); (simp (disch := (first | (simp only [SD, SF, beq_self_eq_true, Nat.reduceLT, Nat.reduceAdd]; done) | ((fail_if_success (apply Bool.eq_iff_iff.2)); first | omega | (simp only [SD, SF, beq_self_eq_true, Nat.reduceLT, Nat.reduceAdd] <;> omega)))) only [↓SA, ↓GArg.ev, ↓evs, ↓evOpt, ↓evParts, ↓reduceIte, SB, SC, setL, if_true, if_false, Nat.reduceEqDiff, Nat.reduceAdd, Nat.reduceMul, reduceCtorEq, Int.reduceToNat, g4, f1, f2, f7, f9, f57, f58, f59]; refine G1_go (hK' _ _ ?_); clear hK' K')) | ((first | refine Gw_dt fun A B C D hA hB hC hD => ?_ | refine Gw_df fun A B C D hA hB hC hD => ?_ | refine GW_cd fun A B C D hA hB hC hD => ?_); (simp only [↓Tr.get_set, Nat.reduceEqDiff, if_true, if_false, ↓reduceIte, g4, f1, f2, f7, f9, f57, f58, f59]; first | (refine Gd_true (hA ?_); clear hA hB hC hD A B C D) | (refine Gd_false (hB ?_); clear hA hB hC hD A B C D) | (refine Gd_some (fun hc => hC ?_) (fun hc => hD ?_) <;> clear hA hB hC hD A B C D <;> (try simp only [decide_eq_true_eq, decide_eq_false_iff_not, Bool.not_eq_true', Bool.not_eq_false', Int.not_lt, Int.not_le, Bool.not_true, Bool.not_false, Bool.true_eq_false, Bool.false_eq_true, Decidable.not_not] at hc)))) | (refine Gw_u fun A hA => ?_; simp only [↓Tr.get_set, Nat.reduceEqDiff, if_true, if_false, ↓reduceIte, g4, f1, f2, f7, f9, f57, f58, f59]; refine Gu_mk (hA ?_); clear hA A) | (refine GR.mk ?_; simp only [gresults, ↓Tr.get_set, Option.bind_some, Nat.reduceEqDiff, if_true, if_false, ↓reduceIte, gld_1, gld_n, g4, f1, f2, f7, f9, f57, f58, f59]; refine ⟨_, rfl, ?_⟩; simp only [gone]))
        refine hJJ _ _ ⟨16 - (n + 1), by omega, n + 1, m, l, rs, rfl, by omega, ?_⟩
        simp only [↓Tr.get_set, Nat.reduceEqDiff, if_true, if_false, ↓reduceIte, Int.natCast_add, Int.cast_ofNat_Int, Int.natCast_zero, true_and, and_true, Option.some.injEq, Value.int.injEq, f1, f2, f7, f9, f57, f58]
        exact ⟨hJ5, hC, hB4.trans hB5, by omega, by omega, by omega⟩
    case pos.refine_1.refine_2 =>
      refine Gw_s fun K' hK' => G1_call (by simp only [gtarget, ↓GArg.ev, ↓evs, ↓Tr.get_set, Nat.reduceEqDiff, if_true, if_false, ↓reduceIte, Option.map_some, f1, f2, f7, f9, f57, f58, f59]; rfl) (append_ok hJ4 hC.good.bank (by omega) hpv hpj (by omega)) fun r5 H5 hq => hK' _ _ ?_
      obtain ⟨rfl, hJ5, hB5⟩ := hq
      by_cases hfit : l.fin + 17 + P.length < m.size
      · obtain ⟨m', e1, hC5, hdl⟩ := hC.append (p := P) (by omega) (by omega) hfit
        rw [e1] at hJ5
        repeat' (first | (exfalso; omega) | refine GW_seq ?_ | refine GW_line ?_ | refine Gw_nil ?_ | refine GN_seq ?_ | refine GN_blk ?_ | refine GW_block ?_ | refine GW_skip ?_ | refine GW_exit ?_ | refine GX_seq ?_ | refine GX_blk ?_ | refine GX_up rfl ?_ | refine GX_inv ?_ | refine GW_ret ?_ | refine GN_inv ?_ | refine GN_nil ?_ | refine GW_any rfl ?_ | refine Gp_nil ?_ | ((first | refine Gw_s fun K' hK' => ?_ | refine Gp_s fun K' hK' => ?_ | refine Gw_0 fun K' hK' => ?_ | intro K' hK'); (simp (disch := (first | (simp only [SD, SF, beq_self_eq_true, Nat.reduceLT, Nat.reduceAdd]; done) | ((fail_if_success (apply Bool.eq_iff_iff.2)); first | omega | (simp only [SD, SF, beq_self_eq_true, Nat.reduceLT, Nat.reduceAdd] <;> omega)))) only [↓SA, ↓GArg.ev, ↓evs, ↓evOpt, ↓evParts, ↓reduceIte, SB, SC, setL, if_true, if_false, Nat.reduceEqDiff, Nat.reduceAdd, Nat.reduceMul, reduceCtorEq, Int.reduceToNat, g4, f1, f2, f7, f9, f57, f58, f59]; refine G1_go (hK' _ _ ?_); clear hK' K')) | ((first | refine Gw_dt fun A B C D hA hB hC hD => ?_ | refine Gw_df fun A B C D hA hB hC hD => ?_ | refine GW_cd fun A B C D hA hB hC hD => ?_); (simp only [↓Tr.get_set, Nat.reduceEqDiff, if_true, if_false, ↓reduceIte, g4, f1, f2, f7, f9, f57, f58, f59]; first | (refine Gd_true (hA ?_); clear hA hB hC hD A B C D) | (refine Gd_false (hB ?_); clear hA hB hC hD A B C D) | (refine Gd_some (fun hc => hC ?_) (fun hc => hD ?_) <;> clear hA hB hC hD A B C D <;> (try simp only [decide_eq_true_eq, decide_eq_false_iff_not, Bool.not_eq_true', Bool.not_eq_false', Int.not_lt, Int.not_le, Bool.not_true, Bool.not_false, Bool.true_eq_false, Bool.false_eq_true, Decidable.not_not] at hc)))) | (refine Gw_u fun A hA => ?_; simp only [↓Tr.get_set, Nat.reduceEqDiff, if_true, if_false, ↓reduceIte, g4, f1, f2, f7, f9, f57, f58, f59]; refine Gu_mk (hA ?_); clear hA A) | (refine GR.mk ?_; simp only [gresults, ↓Tr.get_set, Option.bind_some, Nat.reduceEqDiff, if_true, if_false, ↓reduceIte, gld_1, gld_n, g4, f1, f2, f7, f9, f57, f58, f59]; refine ⟨_, rfl, ?_⟩; simp only [gone]))
        refine hJJ _ _ ⟨16 - (n + 1), by omega, n + 1, m', l.app P, rs ++ [⟨l.next, false, P⟩], rfl, by omega, ?_⟩
        simp only [↓Tr.get_set, Nat.reduceEqDiff, if_true, if_false, ↓reduceIte, Int.natCast_add, Int.cast_ofNat_Int, Int.natCast_zero, true_and, and_true, Option.some.injEq, Value.int.injEq, f1, f2, f7, f9, f57, f58]
        exact ⟨hJ5, hC5, hB4.trans hB5, by simp only [JL.app]; omega, by simp only [JL.app]; omega, by simp; omega⟩
      · have e1 := app_full (m := m) (l := l) (p := P) (by omega) hfit
        rw [e1] at hJ5
        repeat' (first | (exfalso; omega) | refine GW_seq ?_ | refine GW_line ?_ | refine Gw_nil ?_ | refine GN_seq ?_ | refine GN_blk ?_ | refine GW_block ?_ | refine GW_skip ?_ | refine GW_exit ?_ | refine GX_seq ?_ | refine GX_blk ?_ | refine GX_up rfl ?_ | refine GX_inv ?_ | refine GW_ret ?_ | refine GN_inv ?_ | refine GN_nil ?_ | refine GW_any rfl ?_ | refine Gp_nil ?_ | ((first | refine Gw_s fun K' hK' => ?_ | refine Gp_s fun K' hK' => ?_ | refine Gw_0 fun K' hK' => ?_ | intro K' hK'); (simp (disch := (first | (simp only [SD, SF, beq_self_eq_true, Nat.reduceLT, Nat.reduceAdd]; done) | ((fail_if_success (apply Bool.eq_iff_iff.2)); first | omega | (simp only [SD, SF, beq_self_eq_true, Nat.reduceLT, Nat.reduceAdd] <;> omega)))) only [↓SA, ↓GArg.ev, ↓evs, ↓evOpt, ↓evParts, ↓reduceIte, SB, SC, setL, if_true, if_false, Nat.reduceEqDiff, Nat.reduceAdd, Nat.reduceMul, reduceCtorEq, Int.reduceToNat, g4, f1, f2, f7, f9, f57, f58, f59]; refine G1_go (hK' _ _ ?_); clear hK' K')) | ((first | refine Gw_dt fun A B C D hA hB hC hD => ?_ | refine Gw_df fun A B C D hA hB hC hD => ?_ | refine GW_cd fun A B C D hA hB hC hD => ?_); (simp only [↓Tr.get_set, Nat.reduceEqDiff, if_true, if_false, ↓reduceIte, g4, f1, f2, f7, f9, f57, f58, f59]; first | (refine Gd_true (hA ?_); clear hA hB hC hD A B C D) | (refine Gd_false (hB ?_); clear hA hB hC hD A B C D) | (refine Gd_some (fun hc => hC ?_) (fun hc => hD ?_) <;> clear hA hB hC hD A B C D <;> (try simp only [decide_eq_true_eq, decide_eq_false_iff_not, Bool.not_eq_true', Bool.not_eq_false', Int.not_lt, Int.not_le, Bool.not_true, Bool.not_false, Bool.true_eq_false, Bool.false_eq_true, Decidable.not_not] at hc)))) | (refine Gw_u fun A hA => ?_; simp only [↓Tr.get_set, Nat.reduceEqDiff, if_true, if_false, ↓reduceIte, g4, f1, f2, f7, f9, f57, f58, f59]; refine Gu_mk (hA ?_); clear hA A) | (refine GR.mk ?_; simp only [gresults, ↓Tr.get_set, Option.bind_some, Nat.reduceEqDiff, if_true, if_false, ↓reduceIte, gld_1, gld_n, g4, f1, f2, f7, f9, f57, f58, f59]; refine ⟨_, rfl, ?_⟩; simp only [gone]))
        refine hJJ _ _ ⟨16 - (n + 1), by omega, n + 1, m, l, rs, rfl, by omega, ?_⟩
        simp only [↓Tr.get_set, Nat.reduceEqDiff, if_true, if_false, ↓reduceIte, Int.natCast_add, Int.cast_ofNat_Int, Int.natCast_zero, true_and, and_true, Option.some.injEq, Value.int.injEq, f1, f2, f7, f9, f57, f58]
        exact ⟨hJ5, hC, hB4.trans hB5, by omega, by omega, by omega⟩
  · repeat' (first | (exfalso; omega) | refine GW_seq ?_ | refine GW_line ?_ | refine Gw_nil ?_ | refine GN_seq ?_ | refine GN_blk ?_ | refine GW_block ?_ | refine GW_skip ?_ | refine GW_exit ?_ | refine GX_seq ?_ | refine GX_blk ?_ | refine GX_up rfl ?_ | refine GX_inv ?_ | refine GW_ret ?_ | refine GN_inv ?_ | refine GN_nil ?_ | refine GW_any rfl ?_ | refine Gp_nil ?_ | ((first | refine Gw_s fun K' hK' => ?_ | refine Gp_s fun K' hK' => ?_ | refine Gw_0 fun K' hK' => ?_ | intro K' hK'); (simp (disch := (first | (simp only [SD, SF, beq_self_eq_true, Nat.reduceLT, Nat.reduceAdd]; done) | ((fail_if_success (apply Bool.eq_iff_iff.2)); first | omega | (simp only [SD, SF, beq_self_eq_true, Nat.reduceLT, Nat.reduceAdd] <;> omega)))) only [↓SA, ↓GArg.ev, ↓evs, ↓evOpt, ↓evParts, ↓reduceIte, SB, SC, setL, if_true, if_false, Nat.reduceEqDiff, Nat.reduceAdd, Nat.reduceMul, reduceCtorEq, Int.reduceToNat, g4, f1, f2, f7, f9, f57, f58, f59]; refine G1_go (hK' _ _ ?_); clear hK' K')) | ((first | refine Gw_dt fun A B C D hA hB hC hD => ?_ | refine Gw_df fun A B C D hA hB hC hD => ?_ | refine GW_cd fun A B C D hA hB hC hD => ?_); (simp only [↓Tr.get_set, Nat.reduceEqDiff, if_true, if_false, ↓reduceIte, g4, f1, f2, f7, f9, f57, f58, f59]; first | (refine Gd_true (hA ?_); clear hA hB hC hD A B C D) | (refine Gd_false (hB ?_); clear hA hB hC hD A B C D) | (refine Gd_some (fun hc => hC ?_) (fun hc => hD ?_) <;> clear hA hB hC hD A B C D <;> (try simp only [decide_eq_true_eq, decide_eq_false_iff_not, Bool.not_eq_true', Bool.not_eq_false', Int.not_lt, Int.not_le, Bool.not_true, Bool.not_false, Bool.true_eq_false, Bool.false_eq_true, Decidable.not_not] at hc)))) | (refine Gw_u fun A hA => ?_; simp only [↓Tr.get_set, Nat.reduceEqDiff, if_true, if_false, ↓reduceIte, g4, f1, f2, f7, f9, f57, f58, f59]; refine Gu_mk (hA ?_); clear hA A) | (refine GR.mk ?_; simp only [gresults, ↓Tr.get_set, Option.bind_some, Nat.reduceEqDiff, if_true, if_false, ↓reduceIte, gld_1, gld_n, g4, f1, f2, f7, f9, f57, f58, f59]; refine ⟨_, rfl, ?_⟩; simp only [gone]))
    refine Gw_s fun K' hK' => G1_call (by simp only [gtarget, ↓GArg.ev, ↓evs, ↓Tr.get_set, Nat.reduceEqDiff, if_true, if_false, ↓reduceIte, Option.map_some, f1, f2, f7, f9, f57, f58, f59]; rfl) (jopen_ok hw3 hJ.mem) fun r5 H5 hq => hK' _ _ ?_
    unfold JOpenOut at hq
    rw [if_neg (by rw [hC.off]; decide), hC.good.open_] at hq
    obtain ⟨k5, v5, L5, rfl, hk5, hk5m, hT5, hL5⟩ := hq
    have hS5 := hT5.own.same
    have hmi := mine_lt hw3 hJ.mem.obj
    have hmj := mine_lt hw3 hJ.mem.dat
    generalize hl5 : (⟨l.bank, l.gen, l.fin, l.next, false, false⟩ : JL) = l5 at hk5m
    have hl5n : l5.next = l.next := by rw [← hl5]
    have hl5f : l5.fin = l.fin := by rw [← hl5]
    have hl5g : l5.gen = l.gen := by rw [← hl5]
    have hC5 : Calm m l5 rs := by rw [← hl5]; exact ⟨hC.good.log false false, hC.off, hC.armed, rfl⟩
    have hJ5 : JAt H5 i j gc k5 m l5 := ⟨hS5.wf, hJ.mem.later hw3 hS5, hk5m, by omega⟩
    have hnlt : M.length - 1 < M.length := by omega
    obtain ⟨hpR, hpl⟩ := hMR M[M.length - 1]! (by rw [getElem!_pos M _ hnlt]; exact List.getElem_mem hnlt)
    have hpl : M[M.length - 1]!.p.length ≤ 9223372036854775807 := hpl
    have hrow := (hv1'.rd.same hS5).rowN wrC_len (by decide) hnlt
    generalize hX : M[M.length - 1]! = X at *
    have hfv : flatV X.v = true := hpR.flat
    have hlim5 := hS5.wf.1
    simp only [wrC] at hrow
    have hst : gsetn [.bool false, .slice none 0 0] 0 2 (.agg #[.bool X.c, X.v]) = some [.bool X.c, X.v] := gsetn_all rfl rfl (by simp only [List.all_cons, List.all_nil, flatV_bool, hfv, Bool.and_self])
    have hia : ∀ kd : IntKind, gia none 2 v1 (.int kd ((M.length : Int) - 1)) = some (.pointer (some ⟨blk v1, ofs v1 + (M.length - 1) * 2, none⟩)) := fun kd => by
      rw [hsl1.ia (by omega) (by omega)]
      rw [show ((M.length : Int) - 1).toNat = M.length - 1 by omega]
    repeat' (first | (exfalso; omega) | refine GW_seq ?_ | refine GW_line ?_ | refine Gw_nil ?_ | refine GN_seq ?_ | refine GN_blk ?_ | refine GW_block ?_ | refine GW_skip ?_ | refine GW_exit ?_ | refine GX_seq ?_ | refine GX_blk ?_ | refine GX_up rfl ?_ | refine GX_inv ?_ | refine GW_ret ?_ | refine GN_inv ?_ | refine GN_nil ?_ | refine GW_any rfl ?_ | refine Gp_nil ?_ | ((first | refine Gw_s fun K' hK' => ?_ | refine Gp_s fun K' hK' => ?_ | refine Gw_0 fun K' hK' => ?_ | intro K' hK'); (simp (disch := (first | (simp only [SD, SF, beq_self_eq_true, Nat.reduceLT, Nat.reduceAdd]; done) | ((fail_if_success (apply Bool.eq_iff_iff.2)); first | omega | (simp only [SD, SF, beq_self_eq_true, Nat.reduceLT, Nat.reduceAdd] <;> omega)))) only [↓SA, ↓GArg.ev, ↓evs, ↓evOpt, ↓evParts, ↓reduceIte, SB, SC, setL, if_true, if_false, Nat.reduceEqDiff, Nat.reduceAdd, Nat.reduceMul, reduceCtorEq, Int.reduceToNat, g4, f1, f2, f7, f9, f57, f58, f59, hsl1.len, hia, hrow, hst]; refine G1_go (hK' _ _ ?_); clear hK' K')) | ((first | refine Gw_dt fun A B C D hA hB hC hD => ?_ | refine Gw_df fun A B C D hA hB hC hD => ?_ | refine GW_cd fun A B C D hA hB hC hD => ?_); (simp only [↓Tr.get_set, Nat.reduceEqDiff, if_true, if_false, ↓reduceIte, g4, f1, f2, f7, f9, f57, f58, f59, hsl1.len, hia, hrow, hst]; first | (refine Gd_true (hA ?_); clear hA hB hC hD A B C D) | (refine Gd_false (hB ?_); clear hA hB hC hD A B C D) | (refine Gd_some (fun hc => hC ?_) (fun hc => hD ?_) <;> clear hA hB hC hD A B C D <;> (try simp only [decide_eq_true_eq, decide_eq_false_iff_not, Bool.not_eq_true', Bool.not_eq_false', Int.not_lt, Int.not_le, Bool.not_true, Bool.not_false, Bool.true_eq_false, Bool.false_eq_true, Decidable.not_not] at hc)))) | (refine Gw_u fun A hA => ?_; simp only [↓Tr.get_set, Nat.reduceEqDiff, if_true, if_false, ↓reduceIte, g4, f1, f2, f7, f9, f57, f58, f59, hsl1.len, hia, hrow, hst]; refine Gu_mk (hA ?_); clear hA A) | (refine GR.mk ?_; simp only [gresults, ↓Tr.get_set, Option.bind_some, Nat.reduceEqDiff, if_true, if_false, ↓reduceIte, gld_1, gld_n, g4, f1, f2, f7, f9, f57, f58, f59, hsl1.len, hia, hrow, hst]; refine ⟨_, rfl, ?_⟩; simp only [gone]))
    have hS6 := (Same.refl hS5.wf).new (.cells [.bool false, .slice none 0 0] 0 true) (.cells [.bool X.c, X.v] 0 true)
    have hJ6 := hJ5.later hS6
    have hT6 := hT5.later hS6
    have hpv6 := (hpR.same_ hw (hS3.trans hS5)).same_ hS5.wf hS6
    have hm6 : ((H5.add (some (.cells [.bool false, .slice none 0 0] 0 true))).put H5.len (.cells [.bool X.c, X.v] 0 true)).mine H5.len = some ([.bool X.c, X.v], 0) := mine_put_same (by rw [lim_add]; exact hlim5)
    generalize ((H5.add (some (.cells [.bool false, .slice none 0 0] 0 true))).put H5.len (.cells [.bool X.c, X.v] 0 true)) = H6 at *
    refine Gw_s fun K' hK' => G1_call (by simp only [gtarget, ↓GArg.ev, ↓evs, ↓Tr.get_set, Nat.reduceEqDiff, if_true, if_false, ↓reduceIte, Option.map_some, f1, f2, f7, f9, f57, f58, f59]; rfl) (cut_ok hpv6 hpl) fun pv Hc hq => hK' _ _ ?_
    obtain ⟨hpv, hpi, rfl⟩ := hq
    have hpe : ∀ a ∈ idOf pv, a < H.len := fun a ha => GArg1.ids hw hpR a (hpi a ha)
    have hjy5 : ∀ a, a < H.len → ¬ jo i j k5 a := by
      intro a ha
      have := hS1.len
      have := hS3.len
      rintro (e | e | e) <;> omega
    have hpj : ∀ a ∈ idOf pv, ¬ jo i j k5 a := fun a ha => hjy5 a (hpe a ha)
    generalize hP : X.p.take 60 = P at *
    have hP60 : P.length ≤ 60 := by rw [← hP]; simp; omega
    have hpv : RB Hc pv P := hpv
    repeat' (first | (exfalso; omega) | refine GW_seq ?_ | refine GW_line ?_ | refine Gw_nil ?_ | refine GN_seq ?_ | refine GN_blk ?_ | refine GW_block ?_ | refine GW_skip ?_ | refine GW_exit ?_ | refine GX_seq ?_ | refine GX_blk ?_ | refine GX_up rfl ?_ | refine GX_inv ?_ | refine GW_ret ?_ | refine GN_inv ?_ | refine GN_nil ?_ | refine GW_any rfl ?_ | refine Gp_nil ?_ | ((first | refine Gw_s fun K' hK' => ?_ | refine Gp_s fun K' hK' => ?_ | refine Gw_0 fun K' hK' => ?_ | intro K' hK'); (simp (disch := (first | (simp only [SD, SF, beq_self_eq_true, Nat.reduceLT, Nat.reduceAdd]; done) | ((fail_if_success (apply Bool.eq_iff_iff.2)); first | omega | (simp only [SD, SF, beq_self_eq_true, Nat.reduceLT, Nat.reduceAdd] <;> omega)))) only [↓SA, ↓GArg.ev, ↓evs, ↓evOpt, ↓evParts, ↓reduceIte, SB, SC, setL, if_true, if_false, Nat.reduceEqDiff, Nat.reduceAdd, Nat.reduceMul, reduceCtorEq, Int.reduceToNat, g4, f1, f2, f7, f9, f57, f58, f59, q2]; refine G1_go (hK' _ _ ?_); clear hK' K')) | ((first | refine Gw_dt fun A B C D hA hB hC hD => ?_ | refine Gw_df fun A B C D hA hB hC hD => ?_ | refine GW_cd fun A B C D hA hB hC hD => ?_); (simp only [↓Tr.get_set, Nat.reduceEqDiff, if_true, if_false, ↓reduceIte, g4, f1, f2, f7, f9, f57, f58, f59, q2]; first | (refine Gd_true (hA ?_); clear hA hB hC hD A B C D) | (refine Gd_false (hB ?_); clear hA hB hC hD A B C D) | (refine Gd_some (fun hc => hC ?_) (fun hc => hD ?_) <;> clear hA hB hC hD A B C D <;> (try simp only [decide_eq_true_eq, decide_eq_false_iff_not, Bool.not_eq_true', Bool.not_eq_false', Int.not_lt, Int.not_le, Bool.not_true, Bool.not_false, Bool.true_eq_false, Bool.false_eq_true, Decidable.not_not] at hc)))) | (refine Gw_u fun A hA => ?_; simp only [↓Tr.get_set, Nat.reduceEqDiff, if_true, if_false, ↓reduceIte, g4, f1, f2, f7, f9, f57, f58, f59, q2]; refine Gu_mk (hA ?_); clear hA A) | (refine GR.mk ?_; simp only [gresults, ↓Tr.get_set, Option.bind_some, Nat.reduceEqDiff, if_true, if_false, ↓reduceIte, gld_1, gld_n, g4, f1, f2, f7, f9, f57, f58, f59, q2]; refine ⟨_, rfl, ?_⟩; simp only [gone]))
    refine Gw_s fun K' hK' => G1_call (by simp only [gtarget, ↓GArg.ev, ↓evs, ↓Tr.get_set, Nat.reduceEqDiff, if_true, if_false, ↓reduceIte, Option.map_some, f1, f2, f7, f9, f57, f58, f59]; rfl) (hJ6.arm (n := cz) (by omega)) fun r7 H7 hq => hK' _ _ ?_
    obtain ⟨hJ7, hB7⟩ := hq
    have hm7 := (hB7.mine (mine_lt hJ6.wf hm6) (fun e => by
      have := hS5.len
      rcases e with e | e | e
      · omega
      · omega
      · subst e; have := hk5m; have := mine_lt hS5.wf hk5m; omega)).trans hm6
    have hrd7 := fun o => mine_rd (o := o) hm7
    have hpv7 := hpv.but hJ6.wf hB7 hpj
    have hpf : flatV pv = true := hpv.flat
    repeat' (first | (exfalso; omega) | refine GW_seq ?_ | refine GW_line ?_ | refine Gw_nil ?_ | refine GN_seq ?_ | refine GN_blk ?_ | refine GW_block ?_ | refine GW_skip ?_ | refine GW_exit ?_ | refine GX_seq ?_ | refine GX_blk ?_ | refine GX_up rfl ?_ | refine GX_inv ?_ | refine GW_ret ?_ | refine GN_inv ?_ | refine GN_nil ?_ | refine GW_any rfl ?_ | refine Gp_nil ?_ | ((first | refine Gw_s fun K' hK' => ?_ | refine Gp_s fun K' hK' => ?_ | refine Gw_0 fun K' hK' => ?_ | intro K' hK'); (simp (disch := (first | (simp only [SD, SF, beq_self_eq_true, Nat.reduceLT, Nat.reduceAdd]; done) | ((fail_if_success (apply Bool.eq_iff_iff.2)); first | omega | (simp only [SD, SF, beq_self_eq_true, Nat.reduceLT, Nat.reduceAdd] <;> omega)))) only [↓SA, ↓GArg.ev, ↓evs, ↓evOpt, ↓evParts, ↓reduceIte, SB, SC, setL, if_true, if_false, Nat.reduceEqDiff, Nat.reduceAdd, Nat.reduceMul, reduceCtorEq, Int.reduceToNat, g4, f1, f2, f7, f9, f57, f58, f59, hrd7]; refine G1_go (hK' _ _ ?_); clear hK' K')) | ((first | refine Gw_dt fun A B C D hA hB hC hD => ?_ | refine Gw_df fun A B C D hA hB hC hD => ?_ | refine GW_cd fun A B C D hA hB hC hD => ?_); (simp only [↓Tr.get_set, Nat.reduceEqDiff, if_true, if_false, ↓reduceIte, g4, f1, f2, f7, f9, f57, f58, f59, hrd7]; first | (refine Gd_true (hA ?_); clear hA hB hC hD A B C D) | (refine Gd_false (hB ?_); clear hA hB hC hD A B C D) | (refine Gd_some (fun hc => hC ?_) (fun hc => hD ?_) <;> clear hA hB hC hD A B C D <;> (try simp only [decide_eq_true_eq, decide_eq_false_iff_not, Bool.not_eq_true', Bool.not_eq_false', Int.not_lt, Int.not_le, Bool.not_true, Bool.not_false, Bool.true_eq_false, Bool.false_eq_true, Decidable.not_not] at hc)))) | (refine Gw_u fun A hA => ?_; simp only [↓Tr.get_set, Nat.reduceEqDiff, if_true, if_false, ↓reduceIte, g4, f1, f2, f7, f9, f57, f58, f59, hrd7]; refine Gu_mk (hA ?_); clear hA A) | (refine GR.mk ?_; simp only [gresults, ↓Tr.get_set, Option.bind_some, Nat.reduceEqDiff, if_true, if_false, ↓reduceIte, gld_1, gld_n, g4, f1, f2, f7, f9, f57, f58, f59, hrd7]; refine ⟨_, rfl, ?_⟩; simp only [gone]))
    case' neg.refine_2.refine_1 =>
      have hXc := hc
      obtain ⟨m8, l8, nn, ee, lg, rs8, e8, hg8, hd8, hcase⟩ := hC5.cmp_any (p := P) hP60 (by omega) (by omega) (n := cz) (by omega)
      refine Gw_s fun K' hK' => G1_call (by simp only [gtarget, ↓GArg.ev, ↓evs, ↓Tr.get_set, Nat.reduceEqDiff, if_true, if_false, ↓reduceIte, Option.map_some, f1, f2, f7, f9, f57, f58, f59]; rfl) (compact_ok hJ7 hC5.good.bank (by omega) hpv7 hpj (by omega)) fun r8 H8 hq => hK' _ _ ?_
      rw [e8] at hq
      dsimp only at hq
      obtain ⟨rfl, hJ8, hB8⟩ := hq
      repeat' (first | refine GW_seq ?_ | refine GW_line ?_ | refine Gw_nil ?_ | refine GN_seq ?_ | refine GN_blk ?_ | refine GW_block ?_ | refine GW_skip ?_ | refine GW_exit ?_ | refine GX_seq ?_ | refine GX_blk ?_ | refine GX_up rfl ?_ | refine GX_inv ?_ | refine GW_ret ?_ | refine GN_inv ?_ | refine GN_nil ?_ | refine GW_any rfl ?_ | refine Gp_nil ?_ | ((first | refine Gw_s fun K' hK' => ?_ | refine Gp_s fun K' hK' => ?_ | refine Gw_0 fun K' hK' => ?_ | intro K' hK'); (simp (disch := (first | (simp only [SD, SF, beq_self_eq_true, Nat.reduceLT, Nat.reduceAdd]; done) | ((fail_if_success (apply Bool.eq_iff_iff.2)); first | omega | (simp only [SD, SF, beq_self_eq_true, Nat.reduceLT, Nat.reduceAdd] <;> omega)))) only [↓SA, ↓GArg.ev, ↓evs, ↓evOpt, ↓evParts, ↓reduceIte, SB, SC, setL, if_true, if_false, Nat.reduceEqDiff, Nat.reduceAdd, Nat.reduceMul, reduceCtorEq, Int.reduceToNat, g4, f1, f2, f7, f9, f57, f58, f59]; refine G1_go (hK' _ _ ?_); clear hK' K')) | ((first | refine Gw_dt fun A B C D hA hB hC hD => ?_ | refine Gw_df fun A B C D hA hB hC hD => ?_ | refine GW_cd fun A B C D hA hB hC hD => ?_); (simp only [↓Tr.get_set, Nat.reduceEqDiff, if_true, if_false, ↓reduceIte, g4, f1, f2, f7, f9, f57, f58, f59]; first | (refine Gd_true (hA ?_); clear hA hB hC hD A B C D) | (refine Gd_false (hB ?_); clear hA hB hC hD A B C D) | (refine Gd_some (fun hc => hC ?_) (fun hc => hD ?_) <;> clear hA hB hC hD A B C D <;> (try simp only [decide_eq_true_eq, decide_eq_false_iff_not, Bool.not_eq_true', Bool.not_eq_false', Int.not_lt, Int.not_le, Bool.not_true, Bool.not_false, Bool.true_eq_false, Bool.false_eq_true, Decidable.not_not] at hc)))) | (refine Gw_u fun A hA => ?_; simp only [↓Tr.get_set, Nat.reduceEqDiff, if_true, if_false, ↓reduceIte, g4, f1, f2, f7, f9, f57, f58, f59]; refine Gu_mk (hA ?_); clear hA A) | (refine GR.mk ?_; simp only [gresults, ↓Tr.get_set, Option.bind_some, Nat.reduceEqDiff, if_true, if_false, ↓reduceIte, gld_1, gld_n, g4, f1, f2, f7, f9, f57, f58, f59]; refine ⟨_, rfl, ?_⟩; simp only [gone]))
    case' neg.refine_2.refine_2 =>
      have hXc := hc
      obtain ⟨m8, l8, nn, ee, lg, rs8, e8, hg8, hd8, hcase⟩ := hC5.app_any (p := P) hP60 (by omega) (n := cz) (by omega)
      refine Gw_s fun K' hK' => G1_call (by simp only [gtarget, ↓GArg.ev, ↓evs, ↓Tr.get_set, Nat.reduceEqDiff, if_true, if_false, ↓reduceIte, Option.map_some, f1, f2, f7, f9, f57, f58, f59]; rfl) (append_ok hJ7 hC5.good.bank (by omega) hpv7 hpj (by omega)) fun r8 H8 hq => hK' _ _ ?_
      rw [e8] at hq
      dsimp only at hq
      obtain ⟨rfl, hJ8, hB8⟩ := hq
      repeat' (first | refine GW_seq ?_ | refine GW_line ?_ | refine Gw_nil ?_ | refine GN_seq ?_ | refine GN_blk ?_ | refine GW_block ?_ | refine GW_skip ?_ | refine GW_exit ?_ | refine GX_seq ?_ | refine GX_blk ?_ | refine GX_up rfl ?_ | refine GX_inv ?_ | refine GW_ret ?_ | refine GN_inv ?_ | refine GN_nil ?_ | refine GW_any rfl ?_ | refine Gp_nil ?_ | ((first | refine Gw_s fun K' hK' => ?_ | refine Gp_s fun K' hK' => ?_ | refine Gw_0 fun K' hK' => ?_ | intro K' hK'); (simp (disch := (first | (simp only [SD, SF, beq_self_eq_true, Nat.reduceLT, Nat.reduceAdd]; done) | ((fail_if_success (apply Bool.eq_iff_iff.2)); first | omega | (simp only [SD, SF, beq_self_eq_true, Nat.reduceLT, Nat.reduceAdd] <;> omega)))) only [↓SA, ↓GArg.ev, ↓evs, ↓evOpt, ↓evParts, ↓reduceIte, SB, SC, setL, if_true, if_false, Nat.reduceEqDiff, Nat.reduceAdd, Nat.reduceMul, reduceCtorEq, Int.reduceToNat, g4, f1, f2, f7, f9, f57, f58, f59]; refine G1_go (hK' _ _ ?_); clear hK' K')) | ((first | refine Gw_dt fun A B C D hA hB hC hD => ?_ | refine Gw_df fun A B C D hA hB hC hD => ?_ | refine GW_cd fun A B C D hA hB hC hD => ?_); (simp only [↓Tr.get_set, Nat.reduceEqDiff, if_true, if_false, ↓reduceIte, g4, f1, f2, f7, f9, f57, f58, f59]; first | (refine Gd_true (hA ?_); clear hA hB hC hD A B C D) | (refine Gd_false (hB ?_); clear hA hB hC hD A B C D) | (refine Gd_some (fun hc => hC ?_) (fun hc => hD ?_) <;> clear hA hB hC hD A B C D <;> (try simp only [decide_eq_true_eq, decide_eq_false_iff_not, Bool.not_eq_true', Bool.not_eq_false', Int.not_lt, Int.not_le, Bool.not_true, Bool.not_false, Bool.true_eq_false, Bool.false_eq_true, Decidable.not_not] at hc)))) | (refine Gw_u fun A hA => ?_; simp only [↓Tr.get_set, Nat.reduceEqDiff, if_true, if_false, ↓reduceIte, g4, f1, f2, f7, f9, f57, f58, f59]; refine Gu_mk (hA ?_); clear hA A) | (refine GR.mk ?_; simp only [gresults, ↓Tr.get_set, Option.bind_some, Nat.reduceEqDiff, if_true, if_false, ↓reduceIte, gld_1, gld_n, g4, f1, f2, f7, f9, f57, f58, f59]; refine ⟨_, rfl, ?_⟩; simp only [gone]))
    all_goals
      refine Gw_s fun K' hK' => G1_call (by simp only [gtarget, ↓GArg.ev, ↓evs, ↓Tr.get_set, Nat.reduceEqDiff, if_true, if_false, ↓reduceIte, Option.map_some, f1, f2, f7, f9, f57, f58, f59]; rfl) (hJ8.on) fun r9 H9 hq => hK' _ _ ?_
      obtain ⟨hJ9, hB9⟩ := hq
      have hg9 : Good ({m8 with armed := false, left := 0, off := false} : JM).data lg rs8 := hg8
      have ho9 : ({m8 with armed := false, left := 0, off := false} : JM).off = false := rfl
      have hd9 : ({m8 with armed := false, left := 0, off := false} : JM).data.length = m.data.length := hd8
      generalize ({m8 with armed := false, left := 0, off := false} : JM) = m9 at *
      have hB69 := (hB7.trans hB8).trans hB9
      repeat' (first | refine GW_seq ?_ | refine GW_line ?_ | refine Gw_nil ?_ | refine GN_seq ?_ | refine GN_blk ?_ | refine GW_block ?_ | refine GW_skip ?_ | refine GW_exit ?_ | refine GX_seq ?_ | refine GX_blk ?_ | refine GX_up rfl ?_ | refine GX_inv ?_ | refine GW_ret ?_ | refine GN_inv ?_ | refine GN_nil ?_ | refine GW_any rfl ?_ | refine Gp_nil ?_ | ((first | refine Gw_s fun K' hK' => ?_ | refine Gp_s fun K' hK' => ?_ | refine Gw_0 fun K' hK' => ?_ | intro K' hK'); (simp (disch := (first | (simp only [SD, SF, beq_self_eq_true, Nat.reduceLT, Nat.reduceAdd]; done) | ((fail_if_success (apply Bool.eq_iff_iff.2)); first | omega | (simp only [SD, SF, beq_self_eq_true, Nat.reduceLT, Nat.reduceAdd] <;> omega)))) only [↓SA, ↓GArg.ev, ↓evs, ↓evOpt, ↓evParts, ↓reduceIte, SB, SC, setL, if_true, if_false, Nat.reduceEqDiff, Nat.reduceAdd, Nat.reduceMul, reduceCtorEq, Int.reduceToNat, g4, f1, f2, f7, f9, f57, f58, f59]; refine G1_go (hK' _ _ ?_); clear hK' K')) | ((first | refine Gw_dt fun A B C D hA hB hC hD => ?_ | refine Gw_df fun A B C D hA hB hC hD => ?_ | refine GW_cd fun A B C D hA hB hC hD => ?_); (simp only [↓Tr.get_set, Nat.reduceEqDiff, if_true, if_false, ↓reduceIte, g4, f1, f2, f7, f9, f57, f58, f59]; first | (refine Gd_true (hA ?_); clear hA hB hC hD A B C D) | (refine Gd_false (hB ?_); clear hA hB hC hD A B C D) | (refine Gd_some (fun hc => hC ?_) (fun hc => hD ?_) <;> clear hA hB hC hD A B C D <;> (try simp only [decide_eq_true_eq, decide_eq_false_iff_not, Bool.not_eq_true', Bool.not_eq_false', Int.not_lt, Int.not_le, Bool.not_true, Bool.not_false, Bool.true_eq_false, Bool.false_eq_true, Decidable.not_not] at hc)))) | (refine Gw_u fun A hA => ?_; simp only [↓Tr.get_set, Nat.reduceEqDiff, if_true, if_false, ↓reduceIte, g4, f1, f2, f7, f9, f57, f58, f59]; refine Gu_mk (hA ?_); clear hA A) | (refine GR.mk ?_; simp only [gresults, ↓Tr.get_set, Option.bind_some, Nat.reduceEqDiff, if_true, if_false, ↓reduceIte, gld_1, gld_n, g4, f1, f2, f7, f9, f57, f58, f59]; refine ⟨_, rfl, ?_⟩; simp only [gone]))
      refine Gw_s fun K' hK' => G1_call (by simp only [gtarget, ↓GArg.ev, ↓evs, ↓Tr.get_set, Nat.reduceEqDiff, if_true, if_false, ↓reduceIte, Option.map_some, f1, f2, f7, f9, f57, f58, f59]; rfl) (jopen_ok hJ9.wf hJ9.mem) fun ra Ha hq => hK' _ _ ?_
      unfold JOpenOut at hq
      rw [if_neg (by rw [ho9]; decide), hg9.open_] at hq
      obtain ⟨ka, va, La, rfl, hka, hkam, hTa, hLa⟩ := hq
      have hSa := hTa.own.same
      have hB6a := hB69.trans (But.of (S := jo i j k5) hSa)
      have hma := (hB6a.mine (mine_lt hJ6.wf hm6) (fun e => by
        have := hS5.len
        rcases e with e | e | e
        · omega
        · omega
        · subst e; have := hk5m; have := mine_lt hS5.wf hk5m; omega)).trans hm6
      have hrda := fun o => mine_rd (o := o) hma
      have hRa := hTa.r
      have hR5 := hT6.keep hJ6 hmi hmj hB6a
      have hA5 := hT6.arg.but hJ6.wf hB6a (hJ6.apart hT6.own)
      have hpva : RB Ha pv P := hpv.but hJ6.wf hB6a hpj
      have hLal := congrArg List.length hLa
      simp only [List.length_map] at hLal
      have hL5l := congrArg List.length hL5
      simp only [List.length_map] at hL5l
      have hlima := hSa.wf.1
      rcases hcase with ⟨c1, rfl, c2, rfl⟩ | ⟨rfl, c1, rfl⟩
      · have hsm : sameR La L5 = true := sameR_true (hLa.trans hL5.symm)
        have g0 : ∀ e, gbin .neq e (.int .i64 ee) (.int .i64 0) = some (.bool true) := fun e => by rw [gb_neq', decide_eq_true c1]
        rcases c2 with rfl | rfl
        all_goals
          repeat' (first | refine GW_seq ?_ | refine GW_line ?_ | refine Gw_nil ?_ | refine GN_seq ?_ | refine GN_blk ?_ | refine GW_block ?_ | refine GW_skip ?_ | refine GW_exit ?_ | refine GX_seq ?_ | refine GX_blk ?_ | refine GX_up rfl ?_ | refine GX_inv ?_ | refine GW_ret ?_ | refine GN_inv ?_ | refine GN_nil ?_ | refine GW_any rfl ?_ | refine Gp_nil ?_ | ((first | refine Gw_s fun K' hK' => ?_ | refine Gp_s fun K' hK' => ?_ | refine Gw_0 fun K' hK' => ?_ | intro K' hK'); (simp (disch := (first | (simp only [SD, SF, beq_self_eq_true, Nat.reduceLT, Nat.reduceAdd]; done) | ((fail_if_success (apply Bool.eq_iff_iff.2)); first | omega | (simp only [SD, SF, beq_self_eq_true, Nat.reduceLT, Nat.reduceAdd] <;> omega)))) only [↓SA, ↓GArg.ev, ↓evs, ↓evOpt, ↓evParts, ↓reduceIte, SB, SC, setL, if_true, if_false, Nat.reduceEqDiff, Nat.reduceAdd, Nat.reduceMul, reduceCtorEq, Int.reduceToNat, g4, f1, f2, f7, f9, f57, f58, f59, g0]; refine G1_go (hK' _ _ ?_); clear hK' K')) | ((first | refine Gw_dt fun A B C D hA hB hC hD => ?_ | refine Gw_df fun A B C D hA hB hC hD => ?_ | refine GW_cd fun A B C D hA hB hC hD => ?_); (simp only [↓Tr.get_set, Nat.reduceEqDiff, if_true, if_false, ↓reduceIte, g4, f1, f2, f7, f9, f57, f58, f59, g0]; first | (refine Gd_true (hA ?_); clear hA hB hC hD A B C D) | (refine Gd_false (hB ?_); clear hA hB hC hD A B C D) | (refine Gd_some (fun hc => hC ?_) (fun hc => hD ?_) <;> clear hA hB hC hD A B C D <;> (try simp only [decide_eq_true_eq, decide_eq_false_iff_not, Bool.not_eq_true', Bool.not_eq_false', Int.not_lt, Int.not_le, Bool.not_true, Bool.not_false, Bool.true_eq_false, Bool.false_eq_true, Decidable.not_not] at hc)))) | (refine Gw_u fun A hA => ?_; simp only [↓Tr.get_set, Nat.reduceEqDiff, if_true, if_false, ↓reduceIte, g4, f1, f2, f7, f9, f57, f58, f59, g0]; refine Gu_mk (hA ?_); clear hA A) | (refine GR.mk ?_; simp only [gresults, ↓Tr.get_set, Option.bind_some, Nat.reduceEqDiff, if_true, if_false, ↓reduceIte, gld_1, gld_n, g4, f1, f2, f7, f9, f57, f58, f59, g0]; refine ⟨_, rfl, ?_⟩; simp only [gone]))
          intro K' hK'; refine G1_call (by simp only [gtarget, ↓GArg.ev, ↓evs, ↓Tr.get_set, Nat.reduceEqDiff, if_true, if_false, ↓reduceIte, Option.map_some, f1, f2, f7, f9, f57, f58, f59]; rfl) (same_ok hRa hR5 (by omega)) fun rs Hs hq => hK' _ _ ?_
          obtain ⟨rfl, rfl⟩ := hq
          rw [hsm]
          repeat' (first | refine GW_seq ?_ | refine GW_line ?_ | refine Gw_nil ?_ | refine GN_seq ?_ | refine GN_blk ?_ | refine GW_block ?_ | refine GW_skip ?_ | refine GW_exit ?_ | refine GX_seq ?_ | refine GX_blk ?_ | refine GX_up rfl ?_ | refine GX_inv ?_ | refine GW_ret ?_ | refine GN_inv ?_ | refine GN_nil ?_ | refine GW_any rfl ?_ | refine Gp_nil ?_ | ((first | refine Gw_s fun K' hK' => ?_ | refine Gp_s fun K' hK' => ?_ | refine Gw_0 fun K' hK' => ?_ | intro K' hK'); (simp (disch := (first | (simp only [SD, SF, beq_self_eq_true, Nat.reduceLT, Nat.reduceAdd]; done) | ((fail_if_success (apply Bool.eq_iff_iff.2)); first | omega | (simp only [SD, SF, beq_self_eq_true, Nat.reduceLT, Nat.reduceAdd] <;> omega)))) only [↓SA, ↓GArg.ev, ↓evs, ↓evOpt, ↓evParts, ↓reduceIte, SB, SC, setL, if_true, if_false, Nat.reduceEqDiff, Nat.reduceAdd, Nat.reduceMul, reduceCtorEq, Int.reduceToNat, g4, f1, f2, f7, f9, f57, f58, f59]; refine G1_go (hK' _ _ ?_); clear hK' K')) | ((first | refine Gw_dt fun A B C D hA hB hC hD => ?_ | refine Gw_df fun A B C D hA hB hC hD => ?_ | refine GW_cd fun A B C D hA hB hC hD => ?_); (simp only [↓Tr.get_set, Nat.reduceEqDiff, if_true, if_false, ↓reduceIte, g4, f1, f2, f7, f9, f57, f58, f59]; first | (refine Gd_true (hA ?_); clear hA hB hC hD A B C D) | (refine Gd_false (hB ?_); clear hA hB hC hD A B C D) | (refine Gd_some (fun hc => hC ?_) (fun hc => hD ?_) <;> clear hA hB hC hD A B C D <;> (try simp only [decide_eq_true_eq, decide_eq_false_iff_not, Bool.not_eq_true', Bool.not_eq_false', Int.not_lt, Int.not_le, Bool.not_true, Bool.not_false, Bool.true_eq_false, Bool.false_eq_true, Decidable.not_not] at hc)))) | (refine Gw_u fun A hA => ?_; simp only [↓Tr.get_set, Nat.reduceEqDiff, if_true, if_false, ↓reduceIte, g4, f1, f2, f7, f9, f57, f58, f59]; refine Gu_mk (hA ?_); clear hA A) | (refine GR.mk ?_; simp only [gresults, ↓Tr.get_set, Option.bind_some, Nat.reduceEqDiff, if_true, if_false, ↓reduceIte, gld_1, gld_n, g4, f1, f2, f7, f9, f57, f58, f59]; refine ⟨_, rfl, ?_⟩; simp only [gone]))
          exact hPost _ _ rfl
      repeat' (first | refine GW_seq ?_ | refine GW_line ?_ | refine Gw_nil ?_ | refine GN_seq ?_ | refine GN_blk ?_ | refine GW_block ?_ | refine GW_skip ?_ | refine GW_exit ?_ | refine GX_seq ?_ | refine GX_blk ?_ | refine GX_up rfl ?_ | refine GX_inv ?_ | refine GW_ret ?_ | refine GN_inv ?_ | refine GN_nil ?_ | refine GW_any rfl ?_ | refine Gp_nil ?_ | ((first | refine Gw_s fun K' hK' => ?_ | refine Gp_s fun K' hK' => ?_ | refine Gw_0 fun K' hK' => ?_ | intro K' hK'); (simp (disch := (first | (simp only [SD, SF, beq_self_eq_true, Nat.reduceLT, Nat.reduceAdd]; done) | ((fail_if_success (apply Bool.eq_iff_iff.2)); first | omega | (simp only [SD, SF, beq_self_eq_true, Nat.reduceLT, Nat.reduceAdd] <;> omega)))) only [↓SA, ↓GArg.ev, ↓evs, ↓evOpt, ↓evParts, ↓reduceIte, SB, SC, setL, if_true, if_false, Nat.reduceEqDiff, Nat.reduceAdd, Nat.reduceMul, reduceCtorEq, Int.reduceToNat, g4, f1, f2, f7, f9, f57, f58, f59, hrda, hXc]; refine G1_go (hK' _ _ ?_); clear hK' K')) | ((first | refine Gw_dt fun A B C D hA hB hC hD => ?_ | refine Gw_df fun A B C D hA hB hC hD => ?_ | refine GW_cd fun A B C D hA hB hC hD => ?_); (simp only [↓Tr.get_set, Nat.reduceEqDiff, if_true, if_false, ↓reduceIte, g4, f1, f2, f7, f9, f57, f58, f59, hrda, hXc]; first | (refine Gd_true (hA ?_); clear hA hB hC hD A B C D) | (refine Gd_false (hB ?_); clear hA hB hC hD A B C D) | (refine Gd_some (fun hc => hC ?_) (fun hc => hD ?_) <;> clear hA hB hC hD A B C D <;> (try simp only [decide_eq_true_eq, decide_eq_false_iff_not, Bool.not_eq_true', Bool.not_eq_false', Int.not_lt, Int.not_le, Bool.not_true, Bool.not_false, Bool.true_eq_false, Bool.false_eq_true, Decidable.not_not] at hc)))) | (refine Gw_u fun A hA => ?_; simp only [↓Tr.get_set, Nat.reduceEqDiff, if_true, if_false, ↓reduceIte, g4, f1, f2, f7, f9, f57, f58, f59, hrda, hXc]; refine Gu_mk (hA ?_); clear hA A) | (refine GR.mk ?_; simp only [gresults, ↓Tr.get_set, Option.bind_some, Nat.reduceEqDiff, if_true, if_false, ↓reduceIte, gld_1, gld_n, g4, f1, f2, f7, f9, f57, f58, f59, hrda, hXc]; refine ⟨_, rfl, ?_⟩; simp only [gone]))
    case neg.refine_2.refine_1.inr =>
      have b1 := build_rec (k := (nn : Int)) (t := true) hpva.flat
      have b2 := fill_recv (k := (nn : Int)) (t := true) hpva.flat
      refine Gw_s fun K' hK' => ?_
      simp only [↓SA, ↓evParts, ↓GArg.ev, ↓Tr.get_set, SC, Nat.reduceEqDiff, if_true, if_false, ↓reduceIte, b1]
      refine G1_go (hK' _ _ ?_)
      clear hK' K'
      refine Gw_s fun K' hK' => ?_
      simp only [↓SA, ↓evParts, ↓GArg.ev, ↓Tr.get_set, SC, Nat.reduceEqDiff, if_true, if_false, ↓reduceIte, b2]
      refine G1_go (hK' _ _ ?_)
      clear hK' K'
      have hWn := Want.one (H0 := Ha) (Same.refl hSa.wf) (x := (⟨nn, true, P⟩, pv)) hpva
      have hSn := (Same.refl hSa.wf).add (.cells (recC (⟨nn, true, P⟩, pv)) 3 true)
      refine Gw_s fun K' hK' => G1_call (by simp only [gtarget, ↓GArg.ev, ↓evs, ↓Tr.get_set, Nat.reduceEqDiff, if_true, if_false, ↓reduceIte, Option.map_some]; rfl) (same_ok (hRa.later hSa.wf hSn) (hWn.r hSa.wf) (by simp at hLal; omega)) fun rs Hs hq => hK' _ _ ?_
      obtain ⟨rfl, rfl⟩ := hq
      rw [sameR_true (by rw [hLa]; rfl)]
      repeat' (first | refine GW_seq ?_ | refine GW_line ?_ | refine Gw_nil ?_ | refine GN_seq ?_ | refine GN_blk ?_ | refine GW_block ?_ | refine GW_skip ?_ | refine GW_exit ?_ | refine GX_seq ?_ | refine GX_blk ?_ | refine GX_up rfl ?_ | refine GX_inv ?_ | refine GW_ret ?_ | refine GN_inv ?_ | refine GN_nil ?_ | refine GW_any rfl ?_ | refine Gp_nil ?_ | ((first | refine Gw_s fun K' hK' => ?_ | refine Gp_s fun K' hK' => ?_ | refine Gw_0 fun K' hK' => ?_ | intro K' hK'); (simp (disch := (first | (simp only [SD, SF, beq_self_eq_true, Nat.reduceLT, Nat.reduceAdd]; done) | ((fail_if_success (apply Bool.eq_iff_iff.2)); first | omega | (simp only [SD, SF, beq_self_eq_true, Nat.reduceLT, Nat.reduceAdd] <;> omega)))) only [↓SA, ↓GArg.ev, ↓evs, ↓evOpt, ↓evParts, ↓reduceIte, SB, SC, setL, if_true, if_false, Nat.reduceEqDiff, Nat.reduceAdd, Nat.reduceMul, reduceCtorEq, Int.reduceToNat, g4]; refine G1_go (hK' _ _ ?_); clear hK' K')) | ((first | refine Gw_dt fun A B C D hA hB hC hD => ?_ | refine Gw_df fun A B C D hA hB hC hD => ?_ | refine GW_cd fun A B C D hA hB hC hD => ?_); (simp only [↓Tr.get_set, Nat.reduceEqDiff, if_true, if_false, ↓reduceIte, g4]; first | (refine Gd_true (hA ?_); clear hA hB hC hD A B C D) | (refine Gd_false (hB ?_); clear hA hB hC hD A B C D) | (refine Gd_some (fun hc => hC ?_) (fun hc => hD ?_) <;> clear hA hB hC hD A B C D <;> (try simp only [decide_eq_true_eq, decide_eq_false_iff_not, Bool.not_eq_true', Bool.not_eq_false', Int.not_lt, Int.not_le, Bool.not_true, Bool.not_false, Bool.true_eq_false, Bool.false_eq_true, Decidable.not_not] at hc)))) | (refine Gw_u fun A hA => ?_; simp only [↓Tr.get_set, Nat.reduceEqDiff, if_true, if_false, ↓reduceIte, g4]; refine Gu_mk (hA ?_); clear hA A) | (refine GR.mk ?_; simp only [gresults, ↓Tr.get_set, Option.bind_some, Nat.reduceEqDiff, if_true, if_false, ↓reduceIte, gld_1, gld_n, g4]; refine ⟨_, rfl, ?_⟩; simp only [gone]))
      exact hPost _ _ rfl
    case neg.refine_2.refine_2.inr =>
      have b1 := build_rec0 (k := (nn : Int)) hpva.flat
      have b2 := fill_recv (k := (nn : Int)) (t := false) hpva.flat
      have hO0 : OS 3 3 Ha (Ha.add (some (.cells [] 3 true))) (.slice (some ⟨Ha.len, 0, none⟩) 0 1) 0 [] := ⟨(Same.refl hSa.wf).add _, ⟨rfl, .inr ⟨Ha.len, 1, rfl, .inr rfl, mine_add_eq rfl hlima⟩⟩, .inr (Nat.le_refl _)⟩
      obtain ⟨vb, Hb, eb, hOb, hBb⟩ := hO0.appN (by decide) (by decide) (hA5.same hSa.wf hO0.same) (b := 40) (by omega) (by omega)
      rw [Nat.zero_add, List.nil_append] at hOb
      refine Gw_s fun K' hK' => ?_
      simp only [↓SA, ↓GArg.ev, ↓Tr.get_set, SC, Nat.reduceEqDiff, if_true, if_false, ↓reduceIte]
      refine G1_eq eb (hK' _ _ ?_)
      clear hK' K'
      obtain ⟨vc, Hc3, ec, hOc, hBc⟩ := hOb.app1 (by decide) (by decide) (news := [.int .i64 (nn : Int), .bool false, pv]) rfl (b := 40) (by omega) (by omega)
      refine Gw_s fun K' hK' => ?_
      simp only [↓SA, ↓GArg.ev, ↓Tr.get_set, SC, Nat.reduceEqDiff, if_true, if_false, ↓reduceIte]
      refine G1_go (hK' _ _ ?_)
      clear hK' K'
      refine Gw_s fun K' hK' => ?_
      simp only [↓SA, ↓GArg.ev, ↓Tr.get_set, SC, Nat.reduceEqDiff, if_true, if_false, ↓reduceIte]
      refine G1_go (hK' _ _ ?_)
      clear hK' K'
      refine Gw_s fun K' hK' => ?_
      simp only [↓SA, ↓evParts, ↓GArg.ev, ↓Tr.get_set, SC, Nat.reduceEqDiff, if_true, if_false, ↓reduceIte, b1]
      refine G1_go (hK' _ _ ?_)
      clear hK' K'
      refine Gw_s fun K' hK' => ?_
      simp only [↓SA, ↓evParts, ↓GArg.ev, ↓Tr.get_set, SC, Nat.reduceEqDiff, if_true, if_false, ↓reduceIte, b2]
      refine G1_go (hK' _ _ ?_)
      clear hK' K'
      refine Gw_s fun K' hK' => ?_
      simp only [↓SA, ↓GArg.ev, ↓Tr.get_set, SC, Nat.reduceEqDiff, if_true, if_false, ↓reduceIte]
      refine G1_eq ec (hK' _ _ ?_)
      clear hK' K'
      have hRn : RecR Hc3 vc (L5 ++ [(⟨nn, false, P⟩, pv)]) := by
        refine ⟨?_, fun x hx => ?_⟩
        · rw [List.length_append, List.flatMap_append]
          simpa [recC] using hOc.rd
        · rcases List.mem_append.1 hx with hx | hx
          · exact (hR5.data x hx).same_ hSa.wf hOc.same
          · rw [List.mem_singleton.1 hx]; exact hpva.same_ hSa.wf hOc.same
      refine Gw_s fun K' hK' => G1_call (by simp only [gtarget, ↓GArg.ev, ↓evs, ↓Tr.get_set, Nat.reduceEqDiff, if_true, if_false, ↓reduceIte, Option.map_some]; rfl) (same_ok (hRa.later hSa.wf hOc.same) hRn (by simp at hLal; omega)) fun rs Hs hq => hK' _ _ ?_
      obtain ⟨rfl, rfl⟩ := hq
      rw [sameR_true (by rw [hLa, List.map_append, hL5]; rfl)]
      repeat' (first | refine GW_seq ?_ | refine GW_line ?_ | refine Gw_nil ?_ | refine GN_seq ?_ | refine GN_blk ?_ | refine GW_block ?_ | refine GW_skip ?_ | refine GW_exit ?_ | refine GX_seq ?_ | refine GX_blk ?_ | refine GX_up rfl ?_ | refine GX_inv ?_ | refine GW_ret ?_ | refine GN_inv ?_ | refine GN_nil ?_ | refine GW_any rfl ?_ | refine Gp_nil ?_ | ((first | refine Gw_s fun K' hK' => ?_ | refine Gp_s fun K' hK' => ?_ | refine Gw_0 fun K' hK' => ?_ | intro K' hK'); (simp (disch := (first | (simp only [SD, SF, beq_self_eq_true, Nat.reduceLT, Nat.reduceAdd]; done) | ((fail_if_success (apply Bool.eq_iff_iff.2)); first | omega | (simp only [SD, SF, beq_self_eq_true, Nat.reduceLT, Nat.reduceAdd] <;> omega)))) only [↓SA, ↓GArg.ev, ↓evs, ↓evOpt, ↓evParts, ↓reduceIte, SB, SC, setL, if_true, if_false, Nat.reduceEqDiff, Nat.reduceAdd, Nat.reduceMul, reduceCtorEq, Int.reduceToNat, g4]; refine G1_go (hK' _ _ ?_); clear hK' K')) | ((first | refine Gw_dt fun A B C D hA hB hC hD => ?_ | refine Gw_df fun A B C D hA hB hC hD => ?_ | refine GW_cd fun A B C D hA hB hC hD => ?_); (simp only [↓Tr.get_set, Nat.reduceEqDiff, if_true, if_false, ↓reduceIte, g4]; first | (refine Gd_true (hA ?_); clear hA hB hC hD A B C D) | (refine Gd_false (hB ?_); clear hA hB hC hD A B C D) | (refine Gd_some (fun hc => hC ?_) (fun hc => hD ?_) <;> clear hA hB hC hD A B C D <;> (try simp only [decide_eq_true_eq, decide_eq_false_iff_not, Bool.not_eq_true', Bool.not_eq_false', Int.not_lt, Int.not_le, Bool.not_true, Bool.not_false, Bool.true_eq_false, Bool.false_eq_true, Decidable.not_not] at hc)))) | (refine Gw_u fun A hA => ?_; simp only [↓Tr.get_set, Nat.reduceEqDiff, if_true, if_false, ↓reduceIte, g4]; refine Gu_mk (hA ?_); clear hA A) | (refine GR.mk ?_; simp only [gresults, ↓Tr.get_set, Option.bind_some, Nat.reduceEqDiff, if_true, if_false, ↓reduceIte, gld_1, gld_n, g4]; refine ⟨_, rfl, ?_⟩; simp only [gone]))
      exact hPost _ _ rfl
theorem power_law {H : GHeap} (hw : H.wf) {gvs : List Value} (h : RdAs H [.int .u16, .sl wrShp, .int .u16] gvs) : ∃ v H2, gev G 4 gvs H = some (v, H2) ∧ v = .bool true := by
  obtain ⟨_, _, rfl, h1, _, _, rfl, h2, _, _, rfl, h3, rfl⟩ := h
  obtain ⟨n, rfl, hn⟩ := h1.int_
  have hn := wf_u16 hn
  obtain ⟨z, rfl⟩ : ∃ z : Nat, n = z := ⟨n.toNat, by omega⟩
  obtain ⟨L, hL1, hL2, hL3⟩ := wr_of' h2
  obtain ⟨n, rfl, hn2⟩ := h3.int_
  have hn2 := wf_u16 hn2
  obtain ⟨y, rfl⟩ : ∃ z : Nat, n = z := ⟨n.toNat, by omega⟩
  exact power_ok hw hL1 hL2 hL3 (by omega) (by omega)
end Go.Gh
