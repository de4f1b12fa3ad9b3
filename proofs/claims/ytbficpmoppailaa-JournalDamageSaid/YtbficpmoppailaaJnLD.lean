/-
  The law JournalDamage, walked.
-/
import Derived.Test.YtbficpmoppailaaJnL
import Derived.Test.YtbficpmoppailaaJnP3
namespace Go.Gh
set_option linter.unusedSimpArgs false
set_option linter.unusedVariables false
open Go.RowKit
set_option maxRecDepth 4000

theorem fill1b {n : Int} : fillL (ints .u8 (List.replicate 1 0)) [(0, 1, .int .u8 n)] = some [.int .u8 n] := rfl
/-- the records that are appended -/
def dmR (data : List UInt8) (i : Nat) : JR := ⟨i + 1, false, (UInt8.ofNat i :: data).take 60⟩
def dmRs (data : List UInt8) (n : Nat) : List JR := (List.range n).map (dmR data)
theorem dmRs_len (data : List UInt8) (n : Nat) : (dmRs data n).length = n := by simp [dmRs]
theorem dmR_len (data : List UInt8) (i : Nat) : (dmR data i).data.length = min 60 (1 + data.length) := by
  simp only [dmR, List.length_take, List.length_cons]; omega
theorem dmRs_succ (data : List UInt8) (n : Nat) : dmRs data (n + 1) = dmRs data n ++ [dmR data n] := by simp [dmRs, List.range_succ]
theorem dmRs_encs (data : List UInt8) : ∀ n, (encs (dmRs data n)).length = n * (17 + min 60 (1 + data.length))
  | 0 => by simp [dmRs, encs]
  | n + 1 => by
    rw [dmRs_succ, encs_append, List.length_append, dmRs_encs data n]
    simp only [encs, List.flatMap_cons, List.flatMap_nil, List.append_nil, encR_length, dmR_len]
    rw [Nat.succ_mul]
theorem dmRs_get (data : List UInt8) {n i : Nat} (h : i < n) : (dmRs data n)[i]? = some (dmR data i) := by
  simp [dmRs, h]
/-- a table of records whose bytes were made since, none of them in object j -/
structure WantD (H0 H : GHeap) (j : Nat) (v : Value) (L : List RP) : Prop where
  own : OS 3 3 H0 H v L.length (L.flatMap recC)
  data : ∀ x ∈ L, RB H x.2 x.1.data ∧ ∀ a ∈ idOf x.2, a ≠ j ∧ ∃ cs, H.mine a = some (cs, 257)
theorem WantD.r {H0 H : GHeap} {j : Nat} {v : Value} {L : List RP} (h : WantD H0 H j v L) : RecR H v L := ⟨h.own.rd, fun x hx => (h.data x hx).1⟩
theorem WantD.but {H0 H H' : GHeap} {j : Nat} {v : Value} {L : List RP} {S : Nat → Prop} (h : WantD H0 H j v L) (hb : But S H H') (h0 : ∀ k, k < H0.len → ¬ S k) (ha : ∀ a ∈ idOf v, ¬ S a) (hd : ∀ a cs, H.mine a = some (cs, 257) → a ≠ j → ¬ S a) : WantD H0 H' j v L :=
  ⟨h.own.but hb h0 ha, fun x hx => by
    obtain ⟨h1, h2⟩ := h.data x hx
    refine ⟨h1.but h.own.same.wf hb fun a ha => ?_, fun a ha => ?_⟩
    · obtain ⟨k1, cs, k2⟩ := h2 a ha
      exact hd a cs k2 k1
    · obtain ⟨k1, cs, k2⟩ := h2 a ha
      exact ⟨k1, cs, by rw [hb.mine (mine_lt h.own.same.wf k2) (hd a cs k2 k1)]; exact k2⟩⟩
theorem WantD.later {H0 H H' : GHeap} {j : Nat} {v : Value} {L : List RP} (h : WantD H0 H j v L) (hs : Same H H') : WantD H0 H' j v L :=
  ⟨h.own.later hs, fun x hx => by
    obtain ⟨h1, h2⟩ := h.data x hx
    refine ⟨h1.same_ h.own.same.wf hs, fun a ha => ?_⟩
    obtain ⟨k1, cs, k2⟩ := h2 a ha
    exact ⟨k1, cs, by rw [hs.mine (mine_lt h.own.same.wf k2)]; exact k2⟩⟩
theorem WantD.snoc {H0 H : GHeap} {j : Nat} {v : Value} {L : List RP} (h : WantD H0 H j v L) {x : RP} (hx : RB H x.2 x.1.data ∧ ∀ a ∈ idOf x.2, a ≠ j ∧ ∃ cs, H.mine a = some (cs, 257)) (hl : L.length < 1000000) :
    ∃ v' H', gapp 3 40 3 (H.add (some (.cells (recC x) 3 true))) v (.slice (some ⟨H.len, 0, none⟩) 1 2) = some (v', H') ∧ WantD H0 H' j v' (L ++ [x]) ∧ But (fun j => j ∈ idOf v) H H' := by
  obtain ⟨v', H', e, hO, hB⟩ := h.own.app1 (by decide) (by decide) (recC_len x) (b := 40) (by omega) (by omega)
  have hne : ∀ a cs, H.mine a = some (cs, 257) → ¬ a ∈ idOf v := fun a cs hm ha => by
    have := (h.own.ids ha).2.2
    exact mine_ne hm this (by decide) rfl
  have hw := h.own.same.wf
  refine ⟨v', H', e, ⟨?_, fun y hy => ?_⟩, hB⟩
  · rw [List.length_append, List.flatMap_append]
    simpa using hO
  · have key : RB H y.2 y.1.data ∧ ∀ a ∈ idOf y.2, a ≠ j ∧ ∃ cs, H.mine a = some (cs, 257) := by
      rcases List.mem_append.1 hy with hy | hy
      · exact h.data y hy
      · rw [List.mem_singleton.1 hy]; exact hx
    refine ⟨key.1.but hw hB fun a ha => ?_, fun a ha => ?_⟩
    · obtain ⟨k1, cs, k2⟩ := key.2 a ha
      exact hne a cs k2
    · obtain ⟨k1, cs, k2⟩ := key.2 a ha
      exact ⟨k1, cs, by rw [hB.mine (mine_lt hw k2) (hne a cs k2)]; exact k2⟩
theorem gset3 {a : Int} {b : Bool} {c : Value} (hf : flatV c = true) (cs : List Value) (h : cs.length = 3) : gsetn cs 0 3 (.agg #[.int .i64 a, .bool b, c]) = some [.int .i64 a, .bool b, c] :=
  gsetn_all h rfl (by simp [hf, flatV_int, flatV_bool])
theorem dm_split {data : List UInt8} {z t : Nat} (h : t < z + 1) : ∃ post, dmRs data (z + 1) = dmRs data t ++ dmR data t :: post := by
  refine ⟨(dmRs data (z + 1)).drop (t + 1), ?_⟩
  have h1 : t < (dmRs data (z + 1)).length := by rw [dmRs_len]; exact h
  have h2 : (dmRs data (z + 1))[t] = dmR data t := by simp [dmRs]
  have h3 : (dmRs data (z + 1)).take t = dmRs data t := by
    simp only [dmRs, ← List.map_take, List.take_range]
    congr 2; omega
  rw [← h2, ← List.drop_eq_getElem_cons h1, ← h3, List.take_append_drop]
theorem dm_bound {x P : Nat} (h : x ≤ 4) (hP : P ≤ 60) : x * (17 + P) ≤ 308 :=
  Nat.le_trans (Nat.mul_le_mul h (show 17 + P ≤ 77 by omega)) (by decide)
theorem dm_last (data : List UInt8) : ∀ n, lastN 0 (dmRs data n) = n
  | 0 => rfl
  | n + 1 => by rw [dmRs_succ, lastN_snoc]; rfl
set_option maxHeartbeats 16000000 in
theorem damage_ok {H : GHeap} (hw : H.wf) {v : Value} {data : List UInt8} (hv : RB H v data) (hpl : data.length ≤ 140737488351232) {n bit : Nat} (hn : n ≤ 255) (hbit : bit ≤ 65535) :
    ∃ r H', gev G 6 [.int .u8 n, .int .u16 bit, v] H = some (r, H') ∧ r = .bool true := by
  refine gev_GW (f := 6) rfl fun Post hPost => ?_
  simp only [frameOf, Nat.reduceAdd]
  repeat' (first | refine GW_seq ?_ | refine GW_line ?_ | refine Gw_nil ?_ | refine GN_seq ?_ | refine GN_blk ?_ | refine GW_block ?_ | refine GW_skip ?_ | refine GW_exit ?_ | refine GX_seq ?_ | refine GX_blk ?_ | refine GX_up rfl ?_ | refine GX_inv ?_ | refine GW_ret ?_ | refine GN_inv ?_ | refine GN_nil ?_ | refine GW_any rfl ?_ | refine Gp_nil ?_ | ((first | refine Gw_s fun K' hK' => ?_ | refine Gp_s fun K' hK' => ?_ | refine Gw_0 fun K' hK' => ?_ | intro K' hK'); (simp (disch := (first | (simp only [SD, SF, beq_self_eq_true, Nat.reduceLT, Nat.reduceAdd]; done) | ((fail_if_success (apply Bool.eq_iff_iff.2)); first | omega | (simp only [SD, SF, beq_self_eq_true, Nat.reduceLT, Nat.reduceAdd] <;> omega)) | fail)) only [↓SA, ↓GArg.ev, ↓evs, ↓evOpt, ↓evParts, ↓reduceIte, SB, SC, setL, if_true, if_false, Nat.reduceEqDiff, Nat.reduceAdd, Nat.reduceMul, reduceCtorEq, Int.reduceToNat, g6]; refine G1_go (hK' _ _ ?_); clear hK' K')) | ((first | refine Gw_dt fun A B C D hA hB hC hD => ?_ | refine Gw_df fun A B C D hA hB hC hD => ?_ | refine GW_cd fun A B C D hA hB hC hD => ?_); (simp only [↓Tr.get_set, Nat.reduceEqDiff, if_true, if_false, ↓reduceIte, g6]; first | (refine Gd_true (hA ?_); clear hA hB hC hD A B C D) | (refine Gd_false (hB ?_); clear hA hB hC hD A B C D) | (refine Gd_some (fun hc => hC ?_) (fun hc => hD ?_) <;> clear hA hB hC hD A B C D <;> (try simp only [decide_eq_true_eq, decide_eq_false_iff_not, Bool.not_eq_true', Bool.not_eq_false', Int.not_lt, Int.not_le, Bool.not_true, Bool.not_false, Bool.true_eq_false, Bool.false_eq_true, Decidable.not_not] at hc)))) | (refine Gw_u fun A hA => ?_; simp only [↓Tr.get_set, Nat.reduceEqDiff, if_true, if_false, ↓reduceIte, g6]; refine Gu_mk (hA ?_); clear hA A) | (refine GR.mk ?_; simp only [gresults, ↓Tr.get_set, Option.bind_some, Nat.reduceEqDiff, if_true, if_false, ↓reduceIte, gld_1, gld_n, g6]; refine ⟨_, rfl, ?_⟩; simp only [gone]))
  refine Gw_s fun K' hK' => G1_call (by simp only [gtarget, ↓GArg.ev, ↓evs, ↓Tr.get_set, Nat.reduceEqDiff, if_true, if_false, ↓reduceIte, Option.map_some]; rfl) (awake_ok H) fun r0 H0 hq => hK' _ _ ?_
  obtain ⟨rfl, rfl⟩ := hq
  have q1 : ∀ e, gbin .rem e (.int .i64 (n : Int)) (.int .i64 5) = some (.int .i64 ((n % 5 : Nat) : Int)) := fun e => gb_remN (b := 5) (by decide)
  have hmod : n % 5 < 5 := Nat.mod_lt _ (by decide)
  generalize hS : n % 5 = z at *
  repeat' (first | refine GW_seq ?_ | refine GW_line ?_ | refine Gw_nil ?_ | refine GN_seq ?_ | refine GN_blk ?_ | refine GW_block ?_ | refine GW_skip ?_ | refine GW_exit ?_ | refine GX_seq ?_ | refine GX_blk ?_ | refine GX_up rfl ?_ | refine GX_inv ?_ | refine GW_ret ?_ | refine GN_inv ?_ | refine GN_nil ?_ | refine GW_any rfl ?_ | refine Gp_nil ?_ | ((first | refine Gw_s fun K' hK' => ?_ | refine Gp_s fun K' hK' => ?_ | refine Gw_0 fun K' hK' => ?_ | intro K' hK'); (simp (disch := (first | (simp only [SD, SF, beq_self_eq_true, Nat.reduceLT, Nat.reduceAdd]; done) | ((fail_if_success (apply Bool.eq_iff_iff.2)); first | omega | (simp only [SD, SF, beq_self_eq_true, Nat.reduceLT, Nat.reduceAdd] <;> omega)) | fail)) only [↓SA, ↓GArg.ev, ↓evs, ↓evOpt, ↓evParts, ↓reduceIte, SB, SC, setL, if_true, if_false, Nat.reduceEqDiff, Nat.reduceAdd, Nat.reduceMul, reduceCtorEq, Int.reduceToNat, g6, q1]; refine G1_go (hK' _ _ ?_); clear hK' K')) | ((first | refine Gw_dt fun A B C D hA hB hC hD => ?_ | refine Gw_df fun A B C D hA hB hC hD => ?_ | refine GW_cd fun A B C D hA hB hC hD => ?_); (simp only [↓Tr.get_set, Nat.reduceEqDiff, if_true, if_false, ↓reduceIte, g6, q1]; first | (refine Gd_true (hA ?_); clear hA hB hC hD A B C D) | (refine Gd_false (hB ?_); clear hA hB hC hD A B C D) | (refine Gd_some (fun hc => hC ?_) (fun hc => hD ?_) <;> clear hA hB hC hD A B C D <;> (try simp only [decide_eq_true_eq, decide_eq_false_iff_not, Bool.not_eq_true', Bool.not_eq_false', Int.not_lt, Int.not_le, Bool.not_true, Bool.not_false, Bool.true_eq_false, Bool.false_eq_true, Decidable.not_not] at hc)))) | (refine Gw_u fun A hA => ?_; simp only [↓Tr.get_set, Nat.reduceEqDiff, if_true, if_false, ↓reduceIte, g6, q1]; refine Gu_mk (hA ?_); clear hA A) | (refine GR.mk ?_; simp only [gresults, ↓Tr.get_set, Option.bind_some, Nat.reduceEqDiff, if_true, if_false, ↓reduceIte, gld_1, gld_n, g6, q1]; refine ⟨_, rfl, ?_⟩; simp only [gone]))
  refine Gw_s fun K' hK' => G1_call (by simp only [gtarget, ↓GArg.ev, ↓evs, ↓Tr.get_set, Nat.reduceEqDiff, if_true, if_false, ↓reduceIte, Option.map_some]; rfl) (newmem_ok hw (size := 400) (by decide)) fun r1 H1 hq => hK' _ _ ?_
  unfold NewOut at hq
  rw [if_neg (by decide)] at hq
  obtain ⟨i, j, rfl, hM1, hS1, hi, hj⟩ := hq
  rw [show (400 : Int).toNat = 400 from rfl] at hM1
  have hg1 := good_new (n := 400) (by decide)
  generalize hgc : 2 * 400 + 1 = gc at hM1
  generalize hmd : (⟨newB 400, false, 0, false⟩ : JM) = m0 at *
  have hm0 : m0.data = newB 400 := by rw [← hmd]
  have hm0o : m0.off = false := by rw [← hmd]
  have hm0a : m0.armed = false := by rw [← hmd]
  have hm0l : m0.data.length = 800 := by rw [hm0]; simp [newB, sealB_length, leB_length]
  have hm0s : m0.size = 400 := by rw [JM.size, hm0l]
  rw [← hm0] at hg1
  have hC1 : Calm m0 ⟨0, 1, 13, 1, false, false⟩ [] := ⟨hg1, hm0o, hm0a, rfl⟩
  repeat' (first | refine GW_seq ?_ | refine GW_line ?_ | refine Gw_nil ?_ | refine GN_seq ?_ | refine GN_blk ?_ | refine GW_block ?_ | refine GW_skip ?_ | refine GW_exit ?_ | refine GX_seq ?_ | refine GX_blk ?_ | refine GX_up rfl ?_ | refine GX_inv ?_ | refine GW_ret ?_ | refine GN_inv ?_ | refine GN_nil ?_ | refine GW_any rfl ?_ | refine Gp_nil ?_ | ((first | refine Gw_s fun K' hK' => ?_ | refine Gp_s fun K' hK' => ?_ | refine Gw_0 fun K' hK' => ?_ | intro K' hK'); (simp (disch := (first | (simp only [SD, SF, beq_self_eq_true, Nat.reduceLT, Nat.reduceAdd]; done) | ((fail_if_success (apply Bool.eq_iff_iff.2)); first | omega | (simp only [SD, SF, beq_self_eq_true, Nat.reduceLT, Nat.reduceAdd] <;> omega)) | fail)) only [↓SA, ↓GArg.ev, ↓evs, ↓evOpt, ↓evParts, ↓reduceIte, SB, SC, setL, if_true, if_false, Nat.reduceEqDiff, Nat.reduceAdd, Nat.reduceMul, reduceCtorEq, Int.reduceToNat, g6]; refine G1_go (hK' _ _ ?_); clear hK' K')) | ((first | refine Gw_dt fun A B C D hA hB hC hD => ?_ | refine Gw_df fun A B C D hA hB hC hD => ?_ | refine GW_cd fun A B C D hA hB hC hD => ?_); (simp only [↓Tr.get_set, Nat.reduceEqDiff, if_true, if_false, ↓reduceIte, g6]; first | (refine Gd_true (hA ?_); clear hA hB hC hD A B C D) | (refine Gd_false (hB ?_); clear hA hB hC hD A B C D) | (refine Gd_some (fun hc => hC ?_) (fun hc => hD ?_) <;> clear hA hB hC hD A B C D <;> (try simp only [decide_eq_true_eq, decide_eq_false_iff_not, Bool.not_eq_true', Bool.not_eq_false', Int.not_lt, Int.not_le, Bool.not_true, Bool.not_false, Bool.true_eq_false, Bool.false_eq_true, Decidable.not_not] at hc)))) | (refine Gw_u fun A hA => ?_; simp only [↓Tr.get_set, Nat.reduceEqDiff, if_true, if_false, ↓reduceIte, g6]; refine Gu_mk (hA ?_); clear hA A) | (refine GR.mk ?_; simp only [gresults, ↓Tr.get_set, Option.bind_some, Nat.reduceEqDiff, if_true, if_false, ↓reduceIte, gld_1, gld_n, g6]; refine ⟨_, rfl, ?_⟩; simp only [gone]))
  refine Gw_s fun K' hK' => G1_call (by simp only [gtarget, ↓GArg.ev, ↓evs, ↓Tr.get_set, Nat.reduceEqDiff, if_true, if_false, ↓reduceIte, Option.map_some]; rfl) (jopen_ok hS1.wf hM1) fun r2 H2 hq => hK' _ _ ?_
  unfold JOpenOut at hq
  rw [if_neg (by rw [hm0o]; decide), hg1.open_] at hq
  obtain ⟨k, vr, LR, rfl, hk, hk2, hT2, hLR⟩ := hq
  have hS2 := hT2.own.same
  have hki : k ≠ i := by have := mine_lt hS1.wf hM1.obj; omega
  have hJ2 : JAt H2 i j gc k m0 ⟨0, 1, 13, 1, false, false⟩ := ⟨hS2.wf, hM1.later hS1.wf hS2, hk2, hki⟩
  have hjy : ∀ a, a < H.len → ¬ jo i j k a := by
    intro a ha
    have := hS1.len
    rintro (e | e | e) <;> omega
  generalize hP : min 60 (1 + data.length) = P
  repeat' (first | refine GW_seq ?_ | refine GW_line ?_ | refine Gw_nil ?_ | refine GN_seq ?_ | refine GN_blk ?_ | refine GW_block ?_ | refine GW_skip ?_ | refine GW_exit ?_ | refine GX_seq ?_ | refine GX_blk ?_ | refine GX_up rfl ?_ | refine GX_inv ?_ | refine GW_ret ?_ | refine GN_inv ?_ | refine GN_nil ?_ | refine GW_any rfl ?_ | refine Gp_nil ?_ | ((first | refine Gw_s fun K' hK' => ?_ | refine Gp_s fun K' hK' => ?_ | refine Gw_0 fun K' hK' => ?_ | intro K' hK'); (simp (disch := (first | (simp only [SD, SF, beq_self_eq_true, Nat.reduceLT, Nat.reduceAdd]; done) | ((fail_if_success (apply Bool.eq_iff_iff.2)); first | omega | (simp only [SD, SF, beq_self_eq_true, Nat.reduceLT, Nat.reduceAdd] <;> omega)) | fail)) only [↓SA, ↓GArg.ev, ↓evs, ↓evOpt, ↓evParts, ↓reduceIte, SB, SC, setL, if_true, if_false, Nat.reduceEqDiff, Nat.reduceAdd, Nat.reduceMul, reduceCtorEq, Int.reduceToNat, g6, q1]; refine G1_go (hK' _ _ ?_); clear hK' K')) | ((first | refine Gw_dt fun A B C D hA hB hC hD => ?_ | refine Gw_df fun A B C D hA hB hC hD => ?_ | refine GW_cd fun A B C D hA hB hC hD => ?_); (simp only [↓Tr.get_set, Nat.reduceEqDiff, if_true, if_false, ↓reduceIte, g6, q1]; first | (refine Gd_true (hA ?_); clear hA hB hC hD A B C D) | (refine Gd_false (hB ?_); clear hA hB hC hD A B C D) | (refine Gd_some (fun hc => hC ?_) (fun hc => hD ?_) <;> clear hA hB hC hD A B C D <;> (try simp only [decide_eq_true_eq, decide_eq_false_iff_not, Bool.not_eq_true', Bool.not_eq_false', Int.not_lt, Int.not_le, Bool.not_true, Bool.not_false, Bool.true_eq_false, Bool.false_eq_true, Decidable.not_not] at hc)))) | (refine Gw_u fun A hA => ?_; simp only [↓Tr.get_set, Nat.reduceEqDiff, if_true, if_false, ↓reduceIte, g6, q1]; refine Gu_mk (hA ?_); clear hA A) | (refine GR.mk ?_; simp only [gresults, ↓Tr.get_set, Option.bind_some, Nat.reduceEqDiff, if_true, if_false, ↓reduceIte, gld_1, gld_n, g6, q1]; refine ⟨_, rfl, ?_⟩; simp only [gone]))
  refine GW_loop (fun q fr H3 => ∃ (x : Nat) (m : JM) (l : JL) (W : List RP) (wv : Value), q = z + 1 - x ∧ x ≤ z + 1 ∧ fr.get 1 = some (.int .u16 bit) ∧ fr.get 2 = some (v) ∧ fr.get 7 = some (ptr i) ∧ fr.get 9 = some (ptr k) ∧ fr.get 12 = some (wv) ∧ fr.get 44 = some (.int .i64 ((z : Int) + 1)) ∧ fr.get 45 = some (.int .i64 x) ∧
    JAt H3 i j gc k m l ∧ Calm m l (dmRs data x) ∧ m.data.length = 800 ∧ l.bank = 0 ∧ l.next = x + 1 ∧ WantD H H3 j wv W ∧ W.map Prod.fst = dmRs data x) ?_ (z + 1) ?_
  case refine_2 =>
    refine ⟨0, m0, ⟨0, 1, 13, 1, false, false⟩, [], .slice none 0 0, by omega, by omega, ?_⟩
    simp only [↓Tr.get_set, Nat.reduceEqDiff, if_true, if_false, ↓reduceIte, Int.natCast_add, Int.cast_ofNat_Int, Int.natCast_zero, true_and, and_true, Option.some.injEq, Value.int.injEq]
    exact ⟨hJ2, hC1, hm0l, ⟨OS.nil (hS1.trans hS2), fun x hx => by cases hx⟩, rfl⟩
  rintro q fr H3 ⟨x, m, l, W, wv, rfl, hx, f1, f2, f7, f9, f12, f44, f45, hJ, hC, hml, hlb, hln, hWt, hWm⟩ J hJJ
  have hS3 := hWt.own.same
  have hw3 := hJ.wf
  have hms : m.size = 400 := by rw [JM.size, hml]
  have hfin := hC.good.fin
  rw [dmRs_encs, hP] at hfin
  have hPl : P ≤ 60 := by omega
  repeat' (first | refine GW_seq ?_ | refine GW_line ?_ | refine Gw_nil ?_ | refine GN_seq ?_ | refine GN_blk ?_ | refine GW_block ?_ | refine GW_skip ?_ | refine GW_exit ?_ | refine GX_seq ?_ | refine GX_blk ?_ | refine GX_up rfl ?_ | refine GX_inv ?_ | refine GW_ret ?_ | refine GN_inv ?_ | refine GN_nil ?_ | refine GW_any rfl ?_ | refine Gp_nil ?_ | ((first | refine Gw_s fun K' hK' => ?_ | refine Gp_s fun K' hK' => ?_ | refine Gw_0 fun K' hK' => ?_ | intro K' hK'); (simp (disch := (first | (simp only [SD, SF, beq_self_eq_true, Nat.reduceLT, Nat.reduceAdd]; done) | ((fail_if_success (apply Bool.eq_iff_iff.2)); first | omega | (simp only [SD, SF, beq_self_eq_true, Nat.reduceLT, Nat.reduceAdd] <;> omega)) | fail)) only [↓SA, ↓GArg.ev, ↓evs, ↓evOpt, ↓evParts, ↓reduceIte, SB, SC, setL, if_true, if_false, Nat.reduceEqDiff, Nat.reduceAdd, Nat.reduceMul, reduceCtorEq, Int.reduceToNat, g6, f1, f2, f7, f9, f12, f44, f45, fill1b]; refine G1_go (hK' _ _ ?_); clear hK' K')) | ((first | refine Gw_dt fun A B C D hA hB hC hD => ?_ | refine Gw_df fun A B C D hA hB hC hD => ?_ | refine GW_cd fun A B C D hA hB hC hD => ?_); (simp only [↓Tr.get_set, Nat.reduceEqDiff, if_true, if_false, ↓reduceIte, g6, f1, f2, f7, f9, f12, f44, f45, fill1b]; first | (refine Gd_true (hA ?_); clear hA hB hC hD A B C D) | (refine Gd_false (hB ?_); clear hA hB hC hD A B C D) | (refine Gd_some (fun hc => hC ?_) (fun hc => hD ?_) <;> clear hA hB hC hD A B C D <;> (try simp only [decide_eq_true_eq, decide_eq_false_iff_not, Bool.not_eq_true', Bool.not_eq_false', Int.not_lt, Int.not_le, Bool.not_true, Bool.not_false, Bool.true_eq_false, Bool.false_eq_true, Decidable.not_not] at hc)))) | (refine Gw_u fun A hA => ?_; simp only [↓Tr.get_set, Nat.reduceEqDiff, if_true, if_false, ↓reduceIte, g6, f1, f2, f7, f9, f12, f44, f45, fill1b]; refine Gu_mk (hA ?_); clear hA A) | (refine GR.mk ?_; simp only [gresults, ↓Tr.get_set, Option.bind_some, Nat.reduceEqDiff, if_true, if_false, ↓reduceIte, gld_1, gld_n, g6, f1, f2, f7, f9, f12, f44, f45, fill1b]; refine ⟨_, rfl, ?_⟩; simp only [gone]))
  case refine_1 =>
    have hx4 : x ≤ 4 := by omega
    have hbd := dm_bound hx4 hPl
    have hcell : (u8s (List.replicate 1 0)).set 0 (.int .u8 (x : Int)) = u8s [UInt8.ofNat x] := by
      have : (UInt8.ofNat x).toNat = x := by rw [UInt8.toNat_ofNat']; omega
      simp [u8s, this]
    have hO3 : OS 1 257 H3 (H3.add (some (.cells (u8s [UInt8.ofNat x]) 257 true))) (.slice (some ⟨H3.len, 0, none⟩) 1 2) 1 (u8s [UInt8.ofNat x]) :=
      ⟨(Same.refl hw3).add _, ⟨rfl, .inr ⟨H3.len, 2, rfl, .inr rfl, mine_add_eq rfl hw3.1⟩⟩, .inr (Nat.le_refl _)⟩
    obtain ⟨v', H4, e4, hO4, hB4⟩ := hO3.appN (by decide) (by decide) ((hv.same_ hw hS3).same_ hw3 hO3.same) (b := 1) (by omega) (by omega)
    have hS4 := hO4.same
    have hw4 := hS4.wf
    have hR4 : RB H4 v' (UInt8.ofNat x :: data) := by
      have := OwnG.arg hw4 hO4.own (.inr rfl)
      rw [← u8s_append, Nat.add_comm 1] at this
      exact this
    have hid4 : ∀ a ∈ idOf v', H3.len ≤ a ∧ ∃ cs, H4.mine a = some (cs, 257) := fun a ha => ⟨(hO4.ids ha).1, _, (hO4.ids ha).2.2⟩
    rw [hcell]
    refine Gw_s fun K' hK' => ?_
    simp only [↓SA, ↓GArg.ev, ↓Tr.get_set, Nat.reduceEqDiff, if_true, if_false, ↓reduceIte, f1, f2, Option.bind_some]
    refine G1_eq e4 (hK' _ _ ?_)
    clear hK' K'
    repeat' (first | refine GW_seq ?_ | refine GW_line ?_ | refine Gw_nil ?_ | refine GN_seq ?_ | refine GN_blk ?_ | refine GW_block ?_ | refine GW_skip ?_ | refine GW_exit ?_ | refine GX_seq ?_ | refine GX_blk ?_ | refine GX_up rfl ?_ | refine GX_inv ?_ | refine GW_ret ?_ | refine GN_inv ?_ | refine GN_nil ?_ | refine GW_any rfl ?_ | refine Gp_nil ?_ | ((first | refine Gw_s fun K' hK' => ?_ | refine Gp_s fun K' hK' => ?_ | refine Gw_0 fun K' hK' => ?_ | intro K' hK'); (simp (disch := (first | (simp only [SD, SF, beq_self_eq_true, Nat.reduceLT, Nat.reduceAdd]; done) | ((fail_if_success (apply Bool.eq_iff_iff.2)); first | omega | (simp only [SD, SF, beq_self_eq_true, Nat.reduceLT, Nat.reduceAdd] <;> omega)) | fail)) only [↓SA, ↓GArg.ev, ↓evs, ↓evOpt, ↓evParts, ↓reduceIte, SB, SC, setL, if_true, if_false, Nat.reduceEqDiff, Nat.reduceAdd, Nat.reduceMul, reduceCtorEq, Int.reduceToNat, g6, f1, f2, f7, f9, f12, f44, f45]; refine G1_go (hK' _ _ ?_); clear hK' K')) | ((first | refine Gw_dt fun A B C D hA hB hC hD => ?_ | refine Gw_df fun A B C D hA hB hC hD => ?_ | refine GW_cd fun A B C D hA hB hC hD => ?_); (simp only [↓Tr.get_set, Nat.reduceEqDiff, if_true, if_false, ↓reduceIte, g6, f1, f2, f7, f9, f12, f44, f45]; first | (refine Gd_true (hA ?_); clear hA hB hC hD A B C D) | (refine Gd_false (hB ?_); clear hA hB hC hD A B C D) | (refine Gd_some (fun hc => hC ?_) (fun hc => hD ?_) <;> clear hA hB hC hD A B C D <;> (try simp only [decide_eq_true_eq, decide_eq_false_iff_not, Bool.not_eq_true', Bool.not_eq_false', Int.not_lt, Int.not_le, Bool.not_true, Bool.not_false, Bool.true_eq_false, Bool.false_eq_true, Decidable.not_not] at hc)))) | (refine Gw_u fun A hA => ?_; simp only [↓Tr.get_set, Nat.reduceEqDiff, if_true, if_false, ↓reduceIte, g6, f1, f2, f7, f9, f12, f44, f45]; refine Gu_mk (hA ?_); clear hA A) | (refine GR.mk ?_; simp only [gresults, ↓Tr.get_set, Option.bind_some, Nat.reduceEqDiff, if_true, if_false, ↓reduceIte, gld_1, gld_n, g6, f1, f2, f7, f9, f12, f44, f45]; refine ⟨_, rfl, ?_⟩; simp only [gone]))
    refine Gw_s fun K' hK' => G1_call (by simp only [gtarget, ↓GArg.ev, ↓evs, ↓Tr.get_set, Nat.reduceEqDiff, if_true, if_false, ↓reduceIte, Option.map_some]; rfl) (cut_ok hR4 (by simp only [List.length_cons]; omega)) fun pv Hc hq => hK' _ _ ?_
    obtain ⟨hpv, hpi, rfl⟩ := hq
    have hpv : RB Hc pv (dmR data x).data := hpv
    have hpy : ∀ a ∈ idOf pv, H3.len ≤ a := fun a ha => (hid4 a (hpi a ha)).1
    have hJ4 := hJ.later hS4
    have hpj : ∀ a ∈ idOf pv, ¬ jo i j k a := hJ.young hpy
    have hdl := dmR_len data x
    rw [hP] at hdl
    repeat' (first | refine GW_seq ?_ | refine GW_line ?_ | refine Gw_nil ?_ | refine GN_seq ?_ | refine GN_blk ?_ | refine GW_block ?_ | refine GW_skip ?_ | refine GW_exit ?_ | refine GX_seq ?_ | refine GX_blk ?_ | refine GX_up rfl ?_ | refine GX_inv ?_ | refine GW_ret ?_ | refine GN_inv ?_ | refine GN_nil ?_ | refine GW_any rfl ?_ | refine Gp_nil ?_ | ((first | refine Gw_s fun K' hK' => ?_ | refine Gp_s fun K' hK' => ?_ | refine Gw_0 fun K' hK' => ?_ | intro K' hK'); (simp (disch := (first | (simp only [SD, SF, beq_self_eq_true, Nat.reduceLT, Nat.reduceAdd]; done) | ((fail_if_success (apply Bool.eq_iff_iff.2)); first | omega | (simp only [SD, SF, beq_self_eq_true, Nat.reduceLT, Nat.reduceAdd] <;> omega)) | fail)) only [↓SA, ↓GArg.ev, ↓evs, ↓evOpt, ↓evParts, ↓reduceIte, SB, SC, setL, if_true, if_false, Nat.reduceEqDiff, Nat.reduceAdd, Nat.reduceMul, reduceCtorEq, Int.reduceToNat, g6, f1, f2, f7, f9, f12, f44, f45]; refine G1_go (hK' _ _ ?_); clear hK' K')) | ((first | refine Gw_dt fun A B C D hA hB hC hD => ?_ | refine Gw_df fun A B C D hA hB hC hD => ?_ | refine GW_cd fun A B C D hA hB hC hD => ?_); (simp only [↓Tr.get_set, Nat.reduceEqDiff, if_true, if_false, ↓reduceIte, g6, f1, f2, f7, f9, f12, f44, f45]; first | (refine Gd_true (hA ?_); clear hA hB hC hD A B C D) | (refine Gd_false (hB ?_); clear hA hB hC hD A B C D) | (refine Gd_some (fun hc => hC ?_) (fun hc => hD ?_) <;> clear hA hB hC hD A B C D <;> (try simp only [decide_eq_true_eq, decide_eq_false_iff_not, Bool.not_eq_true', Bool.not_eq_false', Int.not_lt, Int.not_le, Bool.not_true, Bool.not_false, Bool.true_eq_false, Bool.false_eq_true, Decidable.not_not] at hc)))) | (refine Gw_u fun A hA => ?_; simp only [↓Tr.get_set, Nat.reduceEqDiff, if_true, if_false, ↓reduceIte, g6, f1, f2, f7, f9, f12, f44, f45]; refine Gu_mk (hA ?_); clear hA A) | (refine GR.mk ?_; simp only [gresults, ↓Tr.get_set, Option.bind_some, Nat.reduceEqDiff, if_true, if_false, ↓reduceIte, gld_1, gld_n, g6, f1, f2, f7, f9, f12, f44, f45]; refine ⟨_, rfl, ?_⟩; simp only [gone]))
    have hlow := hJ.mem.low
    have hfit : l.fin + 17 + (dmR data x).data.length < m.size := by rw [hdl, hms]; omega
    refine Gw_s fun K' hK' => G1_call (by simp only [gtarget, ↓GArg.ev, ↓evs, ↓Tr.get_set, Nat.reduceEqDiff, if_true, if_false, ↓reduceIte, Option.map_some, f1, f2, f7, f9, f12, f44, f45]; rfl) (append_ok hJ4 (by omega) (by omega) hpv hpj (by omega)) fun r5 H5 hq => hK' _ _ ?_
    obtain ⟨rfl, hJ5, hB5⟩ := hq
    obtain ⟨m', e1, hC2, hdl2⟩ := hC.append (p := (dmR data x).data) (by omega) (by omega) hfit
    rw [e1] at hJ5 ⊢
    dsimp only at hJ5
    have hpj4 : ∀ a ∈ idOf pv, a ≠ j ∧ ∃ cs, Hc.mine a = some (cs, 257) := fun a ha => ⟨fun e => hpj a ha (.inr (.inl e)), (hid4 a (hpi a ha)).2⟩
    have hno : ∀ a cs, Hc.mine a = some (cs, 257) → a ≠ j → ¬ jo i j k a := fun a cs hm hne e => by
      rcases e with e | e | e
      · exact mine_ne hm hJ4.mem.obj (by decide) e
      · exact hne e
      · exact mine_ne hm hJ4.log (by decide) e
    have hW4 := hWt.later hS4
    have hW5 := hW4.but hB5 hjy (hJ4.apart hW4.own) hno
    have hpv5 : RB H5 pv (dmR data x).data := hpv.but hw4 hB5 hpj
    have hpj5 : ∀ a ∈ idOf pv, a ≠ j ∧ ∃ cs, H5.mine a = some (cs, 257) := fun a ha => by
      obtain ⟨k1, cs, k2⟩ := hpj4 a ha
      exact ⟨k1, cs, by rw [hB5.mine (mine_lt hw4 k2) (hpj a ha)]; exact k2⟩
    have b1 := fun k => build_rec0 (k := k) hpv.flat
    have b2 := fun k t => fill_recv (k := k) (t := t) hpv.flat
    repeat' (first | (exfalso; omega) | refine GW_seq ?_ | refine GW_line ?_ | refine Gw_nil ?_ | refine GN_seq ?_ | refine GN_blk ?_ | refine GW_block ?_ | refine GW_skip ?_ | refine GW_exit ?_ | refine GX_seq ?_ | refine GX_blk ?_ | refine GX_up rfl ?_ | refine GX_inv ?_ | refine GW_ret ?_ | refine GN_inv ?_ | refine GN_nil ?_ | refine GW_any rfl ?_ | refine Gp_nil ?_ | ((first | refine Gw_s fun K' hK' => ?_ | refine Gp_s fun K' hK' => ?_ | refine Gw_0 fun K' hK' => ?_ | intro K' hK'); (simp (disch := (first | (simp only [SD, SF, beq_self_eq_true, Nat.reduceLT, Nat.reduceAdd]; done) | ((fail_if_success (apply Bool.eq_iff_iff.2)); first | omega | (simp only [SD, SF, beq_self_eq_true, Nat.reduceLT, Nat.reduceAdd] <;> omega)) | fail)) only [↓SA, ↓GArg.ev, ↓evs, ↓evOpt, ↓evParts, ↓reduceIte, SB, SC, setL, if_true, if_false, Nat.reduceEqDiff, Nat.reduceAdd, Nat.reduceMul, reduceCtorEq, Int.reduceToNat, g6, f1, f2, f7, f9, f12, f44, f45, b1, b2]; refine G1_go (hK' _ _ ?_); clear hK' K')) | ((first | refine Gw_dt fun A B C D hA hB hC hD => ?_ | refine Gw_df fun A B C D hA hB hC hD => ?_ | refine GW_cd fun A B C D hA hB hC hD => ?_); (simp only [↓Tr.get_set, Nat.reduceEqDiff, if_true, if_false, ↓reduceIte, g6, f1, f2, f7, f9, f12, f44, f45, b1, b2]; first | (refine Gd_true (hA ?_); clear hA hB hC hD A B C D) | (refine Gd_false (hB ?_); clear hA hB hC hD A B C D) | (refine Gd_some (fun hc => hC ?_) (fun hc => hD ?_) <;> clear hA hB hC hD A B C D <;> (try simp only [decide_eq_true_eq, decide_eq_false_iff_not, Bool.not_eq_true', Bool.not_eq_false', Int.not_lt, Int.not_le, Bool.not_true, Bool.not_false, Bool.true_eq_false, Bool.false_eq_true, Decidable.not_not] at hc)))) | (refine Gw_u fun A hA => ?_; simp only [↓Tr.get_set, Nat.reduceEqDiff, if_true, if_false, ↓reduceIte, g6, f1, f2, f7, f9, f12, f44, f45, b1, b2]; refine Gu_mk (hA ?_); clear hA A) | (refine GR.mk ?_; simp only [gresults, ↓Tr.get_set, Option.bind_some, Nat.reduceEqDiff, if_true, if_false, ↓reduceIte, gld_1, gld_n, g6, f1, f2, f7, f9, f12, f44, f45, b1, b2]; refine ⟨_, rfl, ?_⟩; simp only [gone]))
    have hw5 := hB5.wf
    have hWl : W.length ≤ 4 := by
      have := congrArg List.length hWm
      rw [List.length_map, dmRs_len] at this
      omega
    refine Gw_s fun K' hK' => ?_
    simp (disch := (first | (simp only [SD, SF, beq_self_eq_true, Nat.reduceLT, Nat.reduceAdd]; done) | ((fail_if_success (apply Bool.eq_iff_iff.2)); first | omega | (simp only [SD, SF, beq_self_eq_true, Nat.reduceLT, Nat.reduceAdd] <;> omega)) | fail)) only [↓SA, ↓GArg.ev, ↓evs, ↓evOpt, ↓evParts, ↓reduceIte, SB, SC, setL, if_true, if_false, Nat.reduceEqDiff, Nat.reduceAdd, Nat.reduceMul, reduceCtorEq, Int.reduceToNat, f1, f2, f7, f9, f12, f44, f45]
    obtain ⟨wv', H6, e, hW6, hB6⟩ := hW5.snoc (x := (⟨l.next, false, (dmR data x).data⟩, pv)) ⟨hpv5, hpj5⟩ (by omega)
    refine G1_eq e (hK' _ _ ?_)
    clear hK' K' e
    repeat' (first | (exfalso; omega) | refine GW_seq ?_ | refine GW_line ?_ | refine Gw_nil ?_ | refine GN_seq ?_ | refine GN_blk ?_ | refine GW_block ?_ | refine GW_skip ?_ | refine GW_exit ?_ | refine GX_seq ?_ | refine GX_blk ?_ | refine GX_up rfl ?_ | refine GX_inv ?_ | refine GW_ret ?_ | refine GN_inv ?_ | refine GN_nil ?_ | refine GW_any rfl ?_ | refine Gp_nil ?_ | ((first | refine Gw_s fun K' hK' => ?_ | refine Gp_s fun K' hK' => ?_ | refine Gw_0 fun K' hK' => ?_ | intro K' hK'); (simp (disch := (first | (simp only [SD, SF, beq_self_eq_true, Nat.reduceLT, Nat.reduceAdd]; done) | ((fail_if_success (apply Bool.eq_iff_iff.2)); first | omega | (simp only [SD, SF, beq_self_eq_true, Nat.reduceLT, Nat.reduceAdd] <;> omega)) | fail)) only [↓SA, ↓GArg.ev, ↓evs, ↓evOpt, ↓evParts, ↓reduceIte, SB, SC, setL, if_true, if_false, Nat.reduceEqDiff, Nat.reduceAdd, Nat.reduceMul, reduceCtorEq, Int.reduceToNat, g6, f1, f2, f7, f9, f12, f44, f45]; refine G1_go (hK' _ _ ?_); clear hK' K')) | ((first | refine Gw_dt fun A B C D hA hB hC hD => ?_ | refine Gw_df fun A B C D hA hB hC hD => ?_ | refine GW_cd fun A B C D hA hB hC hD => ?_); (simp only [↓Tr.get_set, Nat.reduceEqDiff, if_true, if_false, ↓reduceIte, g6, f1, f2, f7, f9, f12, f44, f45]; first | (refine Gd_true (hA ?_); clear hA hB hC hD A B C D) | (refine Gd_false (hB ?_); clear hA hB hC hD A B C D) | (refine Gd_some (fun hc => hC ?_) (fun hc => hD ?_) <;> clear hA hB hC hD A B C D <;> (try simp only [decide_eq_true_eq, decide_eq_false_iff_not, Bool.not_eq_true', Bool.not_eq_false', Int.not_lt, Int.not_le, Bool.not_true, Bool.not_false, Bool.true_eq_false, Bool.false_eq_true, Decidable.not_not] at hc)))) | (refine Gw_u fun A hA => ?_; simp only [↓Tr.get_set, Nat.reduceEqDiff, if_true, if_false, ↓reduceIte, g6, f1, f2, f7, f9, f12, f44, f45]; refine Gu_mk (hA ?_); clear hA A) | (refine GR.mk ?_; simp only [gresults, ↓Tr.get_set, Option.bind_some, Nat.reduceEqDiff, if_true, if_false, ↓reduceIte, gld_1, gld_n, g6, f1, f2, f7, f9, f12, f44, f45]; refine ⟨_, rfl, ?_⟩; simp only [gone]))
    have hrec : (⟨l.next, false, (dmR data x).data⟩ : JR) = dmR data x := by rw [hln]; rfl
    refine hJJ _ _ ⟨z + 1 - (x + 1), by omega, x + 1, m', l.app (dmR data x).data, W ++ [(⟨l.next, false, (dmR data x).data⟩, pv)], wv', rfl, by omega, ?_⟩
    simp only [↓Tr.get_set, Nat.reduceEqDiff, if_true, if_false, ↓reduceIte, Int.natCast_add, Int.cast_ofNat_Int, Int.natCast_zero, true_and, and_true, Option.some.injEq, Value.int.injEq, f1, f2, f7, f9, f44]
    refine ⟨hJ5.but hB6 (fun z hz h2 => hJ5.apart hW5.own z h2 hz), ?_, by rw [hdl2]; exact hml, hlb, by show l.next + 1 = _; omega, hW6, ?_⟩
    · rw [dmRs_succ, ← hrec]; exact hC2
    · rw [List.map_append, hWm, dmRs_succ]
      simp only [List.map_cons, List.map_nil, hrec]
  case refine_2 =>
    obtain rfl : x = z + 1 := by omega
    have hJz := hJJ
    clear hJJ hJz
    have hz4 : z ≤ 4 := by omega
    have hbd := dm_bound hz4 hPl
    rw [Nat.succ_mul] at hfin
    have hP1 : 1 ≤ P := by omega
    refine Gw_s fun K' hK' => G1_call (by simp only [gtarget, ↓GArg.ev, ↓evs, ↓Tr.get_set, Nat.reduceEqDiff, if_true, if_false, ↓reduceIte, Option.map_some, f1, f2, f7, f9, f12]; rfl) (free_ok hJ (by omega)) fun r4 H4 hq => hK' _ _ ?_
    obtain ⟨rfl, rfl⟩ := hq
    have hF : freeJ m l = max (382 - (l.fin : Int)) (-1) := by rw [freeJ, hms]; congr 1; omega
    generalize freeJ m l = F at hF ⊢
    obtain ⟨D, hD⟩ : ∃ D : Nat, (382 - F - 13) * 8 = (D : Int) := ⟨((382 - F - 13) * 8).toNat, by omega⟩
    have hD0 : 0 < D := by omega
    have q2 : ∀ e, gbin .rem e (.int .i64 (bit : Int)) (.int .i64 ((382 - F - 13) * 8)) = some (.int .i64 ((bit % D : Nat) : Int)) := fun e => by rw [hD]; exact gb_remN hD0
    have hA := Nat.mod_lt bit hD0
    generalize hAe : bit % D = A at *
    repeat' (first | (exfalso; omega) | refine GW_seq ?_ | refine GW_line ?_ | refine Gw_nil ?_ | refine GN_seq ?_ | refine GN_blk ?_ | refine GW_block ?_ | refine GW_skip ?_ | refine GW_exit ?_ | refine GX_seq ?_ | refine GX_blk ?_ | refine GX_up rfl ?_ | refine GX_inv ?_ | refine GW_ret ?_ | refine GN_inv ?_ | refine GN_nil ?_ | refine GW_any rfl ?_ | refine Gp_nil ?_ | ((first | refine Gw_s fun K' hK' => ?_ | refine Gp_s fun K' hK' => ?_ | refine Gw_0 fun K' hK' => ?_ | intro K' hK'); (simp (disch := (first | (simp only [SD, SF, beq_self_eq_true, Nat.reduceLT, Nat.reduceAdd]; done) | ((fail_if_success (apply Bool.eq_iff_iff.2)); first | omega | (simp only [SD, SF, beq_self_eq_true, Nat.reduceLT, Nat.reduceAdd] <;> omega)) | fail)) only [↓SA, ↓GArg.ev, ↓evs, ↓evOpt, ↓evParts, ↓reduceIte, SB, SC, setL, if_true, if_false, Nat.reduceEqDiff, Nat.reduceAdd, Nat.reduceMul, reduceCtorEq, Int.reduceToNat, g6, f1, f2, f7, f9, f12, q2]; refine G1_go (hK' _ _ ?_); clear hK' K')) | ((first | refine Gw_dt fun A B C D hA hB hC hD => ?_ | refine Gw_df fun A B C D hA hB hC hD => ?_ | refine GW_cd fun A B C D hA hB hC hD => ?_); (simp only [↓Tr.get_set, Nat.reduceEqDiff, if_true, if_false, ↓reduceIte, g6, f1, f2, f7, f9, f12, q2]; first | (refine Gd_true (hA ?_); clear hA hB hC hD A B C D) | (refine Gd_false (hB ?_); clear hA hB hC hD A B C D) | (refine Gd_some (fun hc => hC ?_) (fun hc => hD ?_) <;> clear hA hB hC hD A B C D <;> (try simp only [decide_eq_true_eq, decide_eq_false_iff_not, Bool.not_eq_true', Bool.not_eq_false', Int.not_lt, Int.not_le, Bool.not_true, Bool.not_false, Bool.true_eq_false, Bool.false_eq_true, Decidable.not_not] at hc)))) | (refine Gw_u fun A hA => ?_; simp only [↓Tr.get_set, Nat.reduceEqDiff, if_true, if_false, ↓reduceIte, g6, f1, f2, f7, f9, f12, q2]; refine Gu_mk (hA ?_); clear hA A) | (refine GR.mk ?_; simp only [gresults, ↓Tr.get_set, Option.bind_some, Nat.reduceEqDiff, if_true, if_false, ↓reduceIte, gld_1, gld_n, g6, f1, f2, f7, f9, f12, q2]; refine ⟨_, rfl, ?_⟩; simp only [gone]))
    have hWr := hWt.r
    have hWsl := hWr.rd.isSl
    have hWl : W.length = z + 1 := by
      have := congrArg List.length hWm
      rw [List.length_map, dmRs_len] at this
      exact this
    have hWg : ∀ y, y < z + 1 → W[y]!.1 = dmR data y := fun y hy => by
      have h1 := congrArg (fun l => l[y]?) hWm
      simp only [List.getElem?_map, dmRs_get data hy, gget (show y < W.length by omega), Option.map_some, Option.some.injEq] at h1
      exact h1
    repeat' (first | (exfalso; omega) | refine GW_seq ?_ | refine GW_line ?_ | refine Gw_nil ?_ | refine GN_seq ?_ | refine GN_blk ?_ | refine GW_block ?_ | refine GW_skip ?_ | refine GW_exit ?_ | refine GX_seq ?_ | refine GX_blk ?_ | refine GX_up rfl ?_ | refine GX_inv ?_ | refine GW_ret ?_ | refine GN_inv ?_ | refine GN_nil ?_ | refine GW_any rfl ?_ | refine Gp_nil ?_ | ((first | refine Gw_s fun K' hK' => ?_ | refine Gp_s fun K' hK' => ?_ | refine Gw_0 fun K' hK' => ?_ | intro K' hK'); (simp (disch := (first | (simp only [SD, SF, beq_self_eq_true, Nat.reduceLT, Nat.reduceAdd]; done) | ((fail_if_success (apply Bool.eq_iff_iff.2)); first | omega | (simp only [SD, SF, beq_self_eq_true, Nat.reduceLT, Nat.reduceAdd] <;> omega)) | fail)) only [↓SA, ↓GArg.ev, ↓evs, ↓evOpt, ↓evParts, ↓reduceIte, SB, SC, setL, if_true, if_false, Nat.reduceEqDiff, Nat.reduceAdd, Nat.reduceMul, reduceCtorEq, Int.reduceToNat, g6, f1, f2, f7, f9, f12, hWsl.len]; refine G1_go (hK' _ _ ?_); clear hK' K')) | ((first | refine Gw_dt fun A B C D hA hB hC hD => ?_ | refine Gw_df fun A B C D hA hB hC hD => ?_ | refine GW_cd fun A B C D hA hB hC hD => ?_); (simp only [↓Tr.get_set, Nat.reduceEqDiff, if_true, if_false, ↓reduceIte, g6, f1, f2, f7, f9, f12, hWsl.len]; first | (refine Gd_true (hA ?_); clear hA hB hC hD A B C D) | (refine Gd_false (hB ?_); clear hA hB hC hD A B C D) | (refine Gd_some (fun hc => hC ?_) (fun hc => hD ?_) <;> clear hA hB hC hD A B C D <;> (try simp only [decide_eq_true_eq, decide_eq_false_iff_not, Bool.not_eq_true', Bool.not_eq_false', Int.not_lt, Int.not_le, Bool.not_true, Bool.not_false, Bool.true_eq_false, Bool.false_eq_true, Decidable.not_not] at hc)))) | (refine Gw_u fun A hA => ?_; simp only [↓Tr.get_set, Nat.reduceEqDiff, if_true, if_false, ↓reduceIte, g6, f1, f2, f7, f9, f12, hWsl.len]; refine Gu_mk (hA ?_); clear hA A) | (refine GR.mk ?_; simp only [gresults, ↓Tr.get_set, Option.bind_some, Nat.reduceEqDiff, if_true, if_false, ↓reduceIte, gld_1, gld_n, g6, f1, f2, f7, f9, f12, hWsl.len]; refine ⟨_, rfl, ?_⟩; simp only [gone]))
    refine GW_loop (fun q fr H5 => ∃ (y : Nat), q = z + 1 - y ∧ y ≤ z + 1 ∧ fr.get 7 = some (ptr i) ∧ fr.get 12 = some (wv) ∧ fr.get 18 = some (.int .i64 (104 + (A : Int))) ∧ fr.get 19 = some (.int .i64 ((13 + y * (17 + P) : Nat) : Int)) ∧ fr.get 79 = some (wv) ∧ fr.get 80 = some (.int .i64 W.length) ∧ fr.get 81 = some (.int .i64 y) ∧ Same H4 H5 ∧ ∀ x, x < y → ¬ (13 + x * (17 + P) < (104 + A) / 8 ∧ (104 + A) / 8 < 13 + x * (17 + P) + 5)) ?_ (z + 1) ?_
    case refine_2 =>
      refine ⟨0, by omega, by omega, ?_⟩
      simp only [↓Tr.get_set, Nat.reduceEqDiff, if_true, if_false, ↓reduceIte, Int.natCast_add, Int.cast_ofNat_Int, Int.natCast_zero, true_and, and_true, Option.some.injEq, Value.int.injEq, f1, f2, f7, f9, f12]
      exact ⟨by simp, Same.refl hw3, fun x hx => absurd hx (by omega)⟩
    rintro q fr H5 ⟨y, rfl, hy, f7, f12, f18, f19, f79, f80, f81, hS5, hno⟩ J hJJ
    have hw5 := hS5.wf
    have hW5 := hWt.later hS5
    have q8 : ∀ e, gbin .quo e (.int .i64 (104 + (A : Int))) (.int .i64 8) = some (.int .i64 (((104 + A) / 8 : Nat) : Int)) := fun e => by
      rw [show (104 + (A : Int)) = ((104 + A : Nat) : Int) by omega]; exact gb_quoN (b := 8) (by decide) (by omega)
    have hOb : 13 + y * (17 + P) ≤ 398 := by
      have := Nat.mul_le_mul (show y ≤ 5 by omega) (show 17 + P ≤ 77 by omega)
      omega
    have hOs : 13 + (y + 1) * (17 + P) = 13 + y * (17 + P) + (17 + P) := by rw [Nat.succ_mul]; omega
    generalize hO : 13 + y * (17 + P) = O at *
    by_cases hyz : y < z + 1
    · have hrow : H5.rdn (blk wv) (ofs wv + y * 3) 3 = some (.agg #[.int .i64 (W[y]!.1.num : Int), .bool W[y]!.1.state, W[y]!.2]) := hW5.own.rd.rowN recC_len (by decide) (by omega)
      have hmem := hW5.data W[y]! (by rw [getElem!_pos W y (by omega)]; exact List.getElem_mem _)
      have hflat := hmem.1.flat
      have hln := hmem.1.isSl.len
      rw [hWg y hyz, dmR_len, hP] at hln
      have hgs := gset3 (a := (W[y]!.1.num : Int)) (b := W[y]!.1.state) hflat
      have hlim5 := hw5.1
      repeat' (first | (exfalso; omega) | refine GW_seq ?_ | refine GW_line ?_ | refine Gw_nil ?_ | refine GN_seq ?_ | refine GN_blk ?_ | refine GW_block ?_ | refine GW_skip ?_ | refine GW_exit ?_ | refine GX_seq ?_ | refine GX_blk ?_ | refine GX_up rfl ?_ | refine GX_inv ?_ | refine GW_ret ?_ | refine GN_inv ?_ | refine GN_nil ?_ | refine GW_any rfl ?_ | refine Gp_nil ?_ | ((first | refine Gw_s fun K' hK' => ?_ | refine Gp_s fun K' hK' => ?_ | refine Gw_0 fun K' hK' => ?_ | intro K' hK'); (simp (disch := (first | (simp only [SD, SF, beq_self_eq_true, Nat.reduceLT, Nat.reduceAdd]; done) | ((fail_if_success (apply Bool.eq_iff_iff.2)); first | omega | (simp only [SD, SF, beq_self_eq_true, Nat.reduceLT, Nat.reduceAdd] <;> omega)) | fail)) only [↓SA, ↓GArg.ev, ↓evs, ↓evOpt, ↓evParts, ↓reduceIte, SB, SC, setL, if_true, if_false, Nat.reduceEqDiff, Nat.reduceAdd, Nat.reduceMul, reduceCtorEq, Int.reduceToNat, g6, f7, f12, f18, f19, f79, f80, f81, hWsl.ia, hrow, hgs, q8, hln]; refine G1_go (hK' _ _ ?_); clear hK' K')) | ((first | refine Gw_dt fun A B C D hA hB hC hD => ?_ | refine Gw_df fun A B C D hA hB hC hD => ?_ | refine GW_cd fun A B C D hA hB hC hD => ?_); (simp only [↓Tr.get_set, Nat.reduceEqDiff, if_true, if_false, ↓reduceIte, g6, f7, f12, f18, f19, f79, f80, f81, hWsl.ia, hrow, hgs, q8, hln]; first | (refine Gd_true (hA ?_); clear hA hB hC hD A B C D) | (refine Gd_false (hB ?_); clear hA hB hC hD A B C D) | (refine Gd_some (fun hc => hC ?_) (fun hc => hD ?_) <;> clear hA hB hC hD A B C D <;> (try simp only [decide_eq_true_eq, decide_eq_false_iff_not, Bool.not_eq_true', Bool.not_eq_false', Int.not_lt, Int.not_le, Bool.not_true, Bool.not_false, Bool.true_eq_false, Bool.false_eq_true, Decidable.not_not] at hc)))) | (refine Gw_u fun A hA => ?_; simp only [↓Tr.get_set, Nat.reduceEqDiff, if_true, if_false, ↓reduceIte, g6, f7, f12, f18, f19, f79, f80, f81, hWsl.ia, hrow, hgs, q8, hln]; refine Gu_mk (hA ?_); clear hA A) | (refine GR.mk ?_; simp only [gresults, ↓Tr.get_set, Option.bind_some, Nat.reduceEqDiff, if_true, if_false, ↓reduceIte, gld_1, gld_n, g6, f7, f12, f18, f19, f79, f80, f81, hWsl.ia, hrow, hgs, q8, hln]; refine ⟨_, rfl, ?_⟩; simp only [gone]))
      case pos.refine_1.refine_1.refine_1 => exact hPost _ _ rfl
      all_goals
        refine hJJ _ _ ⟨z + 1 - (y + 1), by omega, y + 1, rfl, by omega, ?_⟩
        rw [hOs]
        simp only [↓Tr.get_set, Nat.reduceEqDiff, if_true, if_false, ↓reduceIte, Int.natCast_add, Int.cast_ofNat_Int, Int.natCast_zero, true_and, and_true, Option.some.injEq, Value.int.injEq, f7, f12, f18, f79, f80]
        refine ⟨hS5.trans ((Same.refl hw5).new _ _), fun x hx => ?_⟩
        rcases (show x < y ∨ x = y by omega) with h | rfl
        · exact hno x h
        · rw [hO]; omega
    · obtain rfl : y = z + 1 := by omega
      have hJ5 := hJ.later hS5
      have hb104 : -9223372036854775808 ≤ (104 + (A : Int)) ∧ (104 + (A : Int)) ≤ 9223372036854775807 := by omega
      repeat' (first | (exfalso; omega) | refine GW_seq ?_ | refine GW_line ?_ | refine Gw_nil ?_ | refine GN_seq ?_ | refine GN_blk ?_ | refine GW_block ?_ | refine GW_skip ?_ | refine GW_exit ?_ | refine GX_seq ?_ | refine GX_blk ?_ | refine GX_up rfl ?_ | refine GX_inv ?_ | refine GW_ret ?_ | refine GN_inv ?_ | refine GN_nil ?_ | refine GW_any rfl ?_ | refine Gp_nil ?_ | ((first | refine Gw_s fun K' hK' => ?_ | refine Gp_s fun K' hK' => ?_ | refine Gw_0 fun K' hK' => ?_ | intro K' hK'); (simp (disch := (first | (simp only [SD, SF, beq_self_eq_true, Nat.reduceLT, Nat.reduceAdd]; done) | ((fail_if_success (apply Bool.eq_iff_iff.2)); first | omega | (simp only [SD, SF, beq_self_eq_true, Nat.reduceLT, Nat.reduceAdd] <;> omega)) | fail)) only [↓SA, ↓GArg.ev, ↓evs, ↓evOpt, ↓evParts, ↓reduceIte, SB, SC, setL, if_true, if_false, Nat.reduceEqDiff, Nat.reduceAdd, Nat.reduceMul, reduceCtorEq, Int.reduceToNat, g6, f7, f12, f18, f19, f79, f80, f81]; refine G1_go (hK' _ _ ?_); clear hK' K')) | ((first | refine Gw_dt fun A B C D hA hB hC hD => ?_ | refine Gw_df fun A B C D hA hB hC hD => ?_ | refine GW_cd fun A B C D hA hB hC hD => ?_); (simp only [↓Tr.get_set, Nat.reduceEqDiff, if_true, if_false, ↓reduceIte, g6, f7, f12, f18, f19, f79, f80, f81]; first | (refine Gd_true (hA ?_); clear hA hB hC hD A B C D) | (refine Gd_false (hB ?_); clear hA hB hC hD A B C D) | (refine Gd_some (fun hc => hC ?_) (fun hc => hD ?_) <;> clear hA hB hC hD A B C D <;> (try simp only [decide_eq_true_eq, decide_eq_false_iff_not, Bool.not_eq_true', Bool.not_eq_false', Int.not_lt, Int.not_le, Bool.not_true, Bool.not_false, Bool.true_eq_false, Bool.false_eq_true, Decidable.not_not] at hc)))) | (refine Gw_u fun A hA => ?_; simp only [↓Tr.get_set, Nat.reduceEqDiff, if_true, if_false, ↓reduceIte, g6, f7, f12, f18, f19, f79, f80, f81]; refine Gu_mk (hA ?_); clear hA A) | (refine GR.mk ?_; simp only [gresults, ↓Tr.get_set, Option.bind_some, Nat.reduceEqDiff, if_true, if_false, ↓reduceIte, gld_1, gld_n, g6, f7, f12, f18, f19, f79, f80, f81]; refine ⟨_, rfl, ?_⟩; simp only [gone]))
      refine Gw_s fun K' hK' => G1_call (by simp only [gtarget, ↓GArg.ev, ↓evs, ↓Tr.get_set, Nat.reduceEqDiff, if_true, if_false, ↓reduceIte, Option.map_some, f7, f12, f18]; rfl) (flip_ok hw5 hJ5.mem hb104) fun r6 H6 hq => hK' _ _ ?_
      obtain ⟨rfl, hM6, hB6⟩ := hq
      have hok : flipOk m (104 + (A : Int)) := ⟨by omega, by rw [hml]; omega⟩
      rw [flipE, if_pos hok]
      rw [flipJ, if_pos hok, show (104 + (A : Int)).toNat = 104 + A by omega] at hM6
      have hB6' := hB6.mono (T := jo i j k) mo_jo
      have hno6 : ∀ a cs, H5.mine a = some (cs, 257) → a ≠ j → ¬ jo i j k a := fun a cs hm hne e => by
        rcases e with e | e | e
        · exact mine_ne hm hJ5.mem.obj (by decide) e
        · exact hne e
        · exact mine_ne hm hJ5.log (by decide) e
      have hW6 := hW5.but hB6' hjy (hJ5.apart hW5.own) hno6
      have hw6 := hB6.wf
      -- the record that is hit
      obtain ⟨t, ht⟩ : ∃ t, t = ((104 + A) / 8 - 13) / (17 + P) := ⟨_, rfl⟩
      have ht1 : t * (17 + P) ≤ (104 + A) / 8 - 13 := by rw [ht]; exact Nat.div_mul_le_self _ _
      have ht2 : (104 + A) / 8 - 13 < (t + 1) * (17 + P) := by rw [ht, Nat.succ_mul]; exact Nat.lt_div_mul_add (by omega)
      have htz : t < z + 1 := by
        refine Nat.lt_of_mul_lt_mul_right (a := 17 + P) ?_
        rw [Nat.succ_mul]
        omega
      rw [Nat.succ_mul] at ht2
      have hnot := hno t htz
      have hel := dmRs_encs data t
      rw [hP] at hel
      have hdt := dmR_len data t
      rw [hP] at hdt
      obtain ⟨post, hsp⟩ := dm_split (data := data) htz
      have hgd := hC.good
      rw [hsp] at hgd
      have hop := open_flip hgd hlb (at' := 104 + A) (by rw [hel]; omega) (by rw [hel, hdt]; omega) (by rw [hel]; omega)
      rw [hel, dm_last] at hop
      repeat' (first | (exfalso; omega) | refine GW_seq ?_ | refine GW_line ?_ | refine Gw_nil ?_ | refine GN_seq ?_ | refine GN_blk ?_ | refine GW_block ?_ | refine GW_skip ?_ | refine GW_exit ?_ | refine GX_seq ?_ | refine GX_blk ?_ | refine GX_up rfl ?_ | refine GX_inv ?_ | refine GW_ret ?_ | refine GN_inv ?_ | refine GN_nil ?_ | refine GW_any rfl ?_ | refine Gp_nil ?_ | ((first | refine Gw_s fun K' hK' => ?_ | refine Gp_s fun K' hK' => ?_ | refine Gw_0 fun K' hK' => ?_ | intro K' hK'); (simp (disch := (first | (simp only [SD, SF, beq_self_eq_true, Nat.reduceLT, Nat.reduceAdd]; done) | ((fail_if_success (apply Bool.eq_iff_iff.2)); first | omega | (simp only [SD, SF, beq_self_eq_true, Nat.reduceLT, Nat.reduceAdd] <;> omega)) | fail)) only [↓SA, ↓GArg.ev, ↓evs, ↓evOpt, ↓evParts, ↓reduceIte, SB, SC, setL, if_true, if_false, Nat.reduceEqDiff, Nat.reduceAdd, Nat.reduceMul, reduceCtorEq, Int.reduceToNat, g6, f7, f12, f18]; refine G1_go (hK' _ _ ?_); clear hK' K')) | ((first | refine Gw_dt fun A B C D hA hB hC hD => ?_ | refine Gw_df fun A B C D hA hB hC hD => ?_ | refine GW_cd fun A B C D hA hB hC hD => ?_); (simp only [↓Tr.get_set, Nat.reduceEqDiff, if_true, if_false, ↓reduceIte, g6, f7, f12, f18]; first | (refine Gd_true (hA ?_); clear hA hB hC hD A B C D) | (refine Gd_false (hB ?_); clear hA hB hC hD A B C D) | (refine Gd_some (fun hc => hC ?_) (fun hc => hD ?_) <;> clear hA hB hC hD A B C D <;> (try simp only [decide_eq_true_eq, decide_eq_false_iff_not, Bool.not_eq_true', Bool.not_eq_false', Int.not_lt, Int.not_le, Bool.not_true, Bool.not_false, Bool.true_eq_false, Bool.false_eq_true, Decidable.not_not] at hc)))) | (refine Gw_u fun A hA => ?_; simp only [↓Tr.get_set, Nat.reduceEqDiff, if_true, if_false, ↓reduceIte, g6, f7, f12, f18]; refine Gu_mk (hA ?_); clear hA A) | (refine GR.mk ?_; simp only [gresults, ↓Tr.get_set, Option.bind_some, Nat.reduceEqDiff, if_true, if_false, ↓reduceIte, gld_1, gld_n, g6, f7, f12, f18]; refine ⟨_, rfl, ?_⟩; simp only [gone]))
      refine Gw_s fun K' hK' => G1_call (by simp only [gtarget, ↓GArg.ev, ↓evs, ↓Tr.get_set, Nat.reduceEqDiff, if_true, if_false, ↓reduceIte, Option.map_some, f7, f12, f18]; rfl) (jopen_ok hw6 hM6) fun r7 H7 hq => hK' _ _ ?_
      unfold JOpenOut at hq
      rw [if_neg (by rw [hC.off]; decide)] at hq
      simp only [hop] at hq
      obtain ⟨k7, v7, L7, rfl, hk7, hk7m, hT7, hL7⟩ := hq
      have hS7 := hT7.own.same
      have hw7 := hS7.wf
      have hW7 := hW6.later hS7
      have hL7l : L7.length = t := by
        have := congrArg List.length hL7
        rw [List.length_map, dmRs_len] at this
        exact this
      have hsl7 := hT7.r.rd.isSl
      have hWa : GArg1 H7 3 wv W.length (W.flatMap recC) := OwnG.arg hw7 hW7.own.own (.inr rfl)
      obtain ⟨w1, s1, hw1, hwi1⟩ := hWa.first recC_len (k := .i64) (b := (L7.length : Int)) (by omega) (by omega)
      rw [Int.toNat_natCast] at hw1
      repeat' (first | (exfalso; omega) | refine GW_seq ?_ | refine GW_line ?_ | refine Gw_nil ?_ | refine GN_seq ?_ | refine GN_blk ?_ | refine GW_block ?_ | refine GW_skip ?_ | refine GW_exit ?_ | refine GX_seq ?_ | refine GX_blk ?_ | refine GX_up rfl ?_ | refine GX_inv ?_ | refine GW_ret ?_ | refine GN_inv ?_ | refine GN_nil ?_ | refine GW_any rfl ?_ | refine Gp_nil ?_ | ((first | refine Gw_s fun K' hK' => ?_ | refine Gp_s fun K' hK' => ?_ | refine Gw_0 fun K' hK' => ?_ | intro K' hK'); (simp (disch := (first | (simp only [SD, SF, beq_self_eq_true, Nat.reduceLT, Nat.reduceAdd]; done) | ((fail_if_success (apply Bool.eq_iff_iff.2)); first | omega | (simp only [SD, SF, beq_self_eq_true, Nat.reduceLT, Nat.reduceAdd] <;> omega)) | fail)) only [↓SA, ↓GArg.ev, ↓evs, ↓evOpt, ↓evParts, ↓reduceIte, SB, SC, setL, if_true, if_false, Nat.reduceEqDiff, Nat.reduceAdd, Nat.reduceMul, reduceCtorEq, Int.reduceToNat, g6, f7, f12, f18, hsl7.len, hWsl.len, s1]; refine G1_go (hK' _ _ ?_); clear hK' K')) | ((first | refine Gw_dt fun A B C D hA hB hC hD => ?_ | refine Gw_df fun A B C D hA hB hC hD => ?_ | refine GW_cd fun A B C D hA hB hC hD => ?_); (simp only [↓Tr.get_set, Nat.reduceEqDiff, if_true, if_false, ↓reduceIte, g6, f7, f12, f18, hsl7.len, hWsl.len, s1]; first | (refine Gd_true (hA ?_); clear hA hB hC hD A B C D) | (refine Gd_false (hB ?_); clear hA hB hC hD A B C D) | (refine Gd_some (fun hc => hC ?_) (fun hc => hD ?_) <;> clear hA hB hC hD A B C D <;> (try simp only [decide_eq_true_eq, decide_eq_false_iff_not, Bool.not_eq_true', Bool.not_eq_false', Int.not_lt, Int.not_le, Bool.not_true, Bool.not_false, Bool.true_eq_false, Bool.false_eq_true, Decidable.not_not] at hc)))) | (refine Gw_u fun A hA => ?_; simp only [↓Tr.get_set, Nat.reduceEqDiff, if_true, if_false, ↓reduceIte, g6, f7, f12, f18, hsl7.len, hWsl.len, s1]; refine Gu_mk (hA ?_); clear hA A) | (refine GR.mk ?_; simp only [gresults, ↓Tr.get_set, Option.bind_some, Nat.reduceEqDiff, if_true, if_false, ↓reduceIte, gld_1, gld_n, g6, f7, f12, f18, hsl7.len, hWsl.len, s1]; refine ⟨_, rfl, ?_⟩; simp only [gone]))
      have hw1R : RecR H7 w1 (W.take L7.length) := ⟨hw1.rd, fun x hx => (hW7.data x (List.mem_of_mem_take hx)).1⟩
      intro K' hK'; refine G1_call (by simp only [gtarget, ↓GArg.ev, ↓evs, ↓Tr.get_set, Nat.reduceEqDiff, if_true, if_false, ↓reduceIte, Option.map_some, f7, f12, f18]; rfl) (same_ok hT7.r hw1R (by omega)) fun r8 H8 hq => hK' _ _ ?_
      obtain ⟨rfl, rfl⟩ := hq
      rw [sameR_true (by rw [hL7, List.map_take, hWm, hL7l]; simp only [dmRs, ← List.map_take, List.take_range]; congr 2; omega)]
      repeat' (first | (exfalso; omega) | refine GW_seq ?_ | refine GW_line ?_ | refine Gw_nil ?_ | refine GN_seq ?_ | refine GN_blk ?_ | refine GW_block ?_ | refine GW_skip ?_ | refine GW_exit ?_ | refine GX_seq ?_ | refine GX_blk ?_ | refine GX_up rfl ?_ | refine GX_inv ?_ | refine GW_ret ?_ | refine GN_inv ?_ | refine GN_nil ?_ | refine GW_any rfl ?_ | refine Gp_nil ?_ | ((first | refine Gw_s fun K' hK' => ?_ | refine Gp_s fun K' hK' => ?_ | refine Gw_0 fun K' hK' => ?_ | intro K' hK'); (simp (disch := (first | (simp only [SD, SF, beq_self_eq_true, Nat.reduceLT, Nat.reduceAdd]; done) | ((fail_if_success (apply Bool.eq_iff_iff.2)); first | omega | (simp only [SD, SF, beq_self_eq_true, Nat.reduceLT, Nat.reduceAdd] <;> omega)) | fail)) only [↓SA, ↓GArg.ev, ↓evs, ↓evOpt, ↓evParts, ↓reduceIte, SB, SC, setL, if_true, if_false, Nat.reduceEqDiff, Nat.reduceAdd, Nat.reduceMul, reduceCtorEq, Int.reduceToNat, g6, f7, f12, f18, hsl7.len, hWsl.len]; refine G1_go (hK' _ _ ?_); clear hK' K')) | ((first | refine Gw_dt fun A B C D hA hB hC hD => ?_ | refine Gw_df fun A B C D hA hB hC hD => ?_ | refine GW_cd fun A B C D hA hB hC hD => ?_); (simp only [↓Tr.get_set, Nat.reduceEqDiff, if_true, if_false, ↓reduceIte, g6, f7, f12, f18, hsl7.len, hWsl.len]; first | (refine Gd_true (hA ?_); clear hA hB hC hD A B C D) | (refine Gd_false (hB ?_); clear hA hB hC hD A B C D) | (refine Gd_some (fun hc => hC ?_) (fun hc => hD ?_) <;> clear hA hB hC hD A B C D <;> (try simp only [decide_eq_true_eq, decide_eq_false_iff_not, Bool.not_eq_true', Bool.not_eq_false', Int.not_lt, Int.not_le, Bool.not_true, Bool.not_false, Bool.true_eq_false, Bool.false_eq_true, Decidable.not_not] at hc)))) | (refine Gw_u fun A hA => ?_; simp only [↓Tr.get_set, Nat.reduceEqDiff, if_true, if_false, ↓reduceIte, g6, f7, f12, f18, hsl7.len, hWsl.len]; refine Gu_mk (hA ?_); clear hA A) | (refine GR.mk ?_; simp only [gresults, ↓Tr.get_set, Option.bind_some, Nat.reduceEqDiff, if_true, if_false, ↓reduceIte, gld_1, gld_n, g6, f7, f12, f18, hsl7.len, hWsl.len]; refine ⟨_, rfl, ?_⟩; simp only [gone]))
      refine GW_loop (fun q fr H9 => ∃ (y : Nat), q = t - y ∧ y ≤ t ∧ fr.get 12 = some (wv) ∧ fr.get 18 = some (.int .i64 (104 + (A : Int))) ∧ fr.get 22 = some (ptr k7) ∧ fr.get 23 = some (v7) ∧ fr.get 25 = some (.int .i64 ((13 + y * (17 + P) : Nat) : Int)) ∧ fr.get 131 = some (v7) ∧ fr.get 132 = some (.int .i64 L7.length) ∧ fr.get 133 = some (.int .i64 y) ∧ Same H8 H9) ?_ t ?_
      case neg.refine_2.refine_2.refine_2 =>
        refine ⟨0, by omega, by omega, ?_⟩
        simp only [↓Tr.get_set, Nat.reduceEqDiff, if_true, if_false, ↓reduceIte, Int.natCast_add, Int.cast_ofNat_Int, Int.natCast_zero, true_and, and_true, Option.some.injEq, Value.int.injEq, f7, f12, f18]
        exact ⟨by simp, Same.refl hw7⟩
      clear hJJ
      rintro q fr H9 ⟨y, rfl, hy, f12, f18, f22, f23, f25, f131, f132, f133, hS9⟩ J hJJ
      have hw9 := hS9.wf
      have hOb : 13 + y * (17 + P) ≤ 398 := by
        have := Nat.mul_le_mul (show y ≤ 5 by omega) (show 17 + P ≤ 77 by omega)
        omega
      have hOs : 13 + (y + 1) * (17 + P) = 13 + y * (17 + P) + (17 + P) := by rw [Nat.succ_mul]; omega
      by_cases hyt : y < t
      · generalize hO : 13 + y * (17 + P) = O at *
        have hT9 := hT7.later hS9
        have hrow : H9.rdn (blk v7) (ofs v7 + y * 3) 3 = some (.agg #[.int .i64 (L7[y]!.1.num : Int), .bool L7[y]!.1.state, L7[y]!.2]) := hT9.own.rd.rowN recC_len (by decide) (by omega)
        have hmem := hT9.r.data L7[y]! (by rw [getElem!_pos L7 y (by omega)]; exact List.getElem_mem _)
        have hL7g : L7[y]!.1 = dmR data y := by
          have h1 := congrArg (fun l => l[y]?) hL7
          simp only [List.getElem?_map, dmRs_get data hyt, gget (show y < L7.length by omega), Option.map_some, Option.some.injEq] at h1
          exact h1
        have hflat := hmem.flat
        have hln := hmem.isSl.len
        rw [hL7g, dmR_len, hP] at hln
        have hgs := gset3 (a := (L7[y]!.1.num : Int)) (b := L7[y]!.1.state) hflat
        have hlim9 := hw9.1
        repeat' (first | (exfalso; omega) | refine GW_seq ?_ | refine GW_line ?_ | refine Gw_nil ?_ | refine GN_seq ?_ | refine GN_blk ?_ | refine GW_block ?_ | refine GW_skip ?_ | refine GW_exit ?_ | refine GX_seq ?_ | refine GX_blk ?_ | refine GX_up rfl ?_ | refine GX_inv ?_ | refine GW_ret ?_ | refine GN_inv ?_ | refine GN_nil ?_ | refine GW_any rfl ?_ | refine Gp_nil ?_ | ((first | refine Gw_s fun K' hK' => ?_ | refine Gp_s fun K' hK' => ?_ | refine Gw_0 fun K' hK' => ?_ | intro K' hK'); (simp (disch := (first | (simp only [SD, SF, beq_self_eq_true, Nat.reduceLT, Nat.reduceAdd]; done) | ((fail_if_success (apply Bool.eq_iff_iff.2)); first | omega | (simp only [SD, SF, beq_self_eq_true, Nat.reduceLT, Nat.reduceAdd] <;> omega)) | fail)) only [↓SA, ↓GArg.ev, ↓evs, ↓evOpt, ↓evParts, ↓reduceIte, SB, SC, setL, if_true, if_false, Nat.reduceEqDiff, Nat.reduceAdd, Nat.reduceMul, reduceCtorEq, Int.reduceToNat, g6, f12, f18, f22, f23, f25, f131, f132, f133, hsl7.ia, hrow, hgs, hln]; refine G1_go (hK' _ _ ?_); clear hK' K')) | ((first | refine Gw_dt fun A B C D hA hB hC hD => ?_ | refine Gw_df fun A B C D hA hB hC hD => ?_ | refine GW_cd fun A B C D hA hB hC hD => ?_); (simp only [↓Tr.get_set, Nat.reduceEqDiff, if_true, if_false, ↓reduceIte, g6, f12, f18, f22, f23, f25, f131, f132, f133, hsl7.ia, hrow, hgs, hln]; first | (refine Gd_true (hA ?_); clear hA hB hC hD A B C D) | (refine Gd_false (hB ?_); clear hA hB hC hD A B C D) | (refine Gd_some (fun hc => hC ?_) (fun hc => hD ?_) <;> clear hA hB hC hD A B C D <;> (try simp only [decide_eq_true_eq, decide_eq_false_iff_not, Bool.not_eq_true', Bool.not_eq_false', Int.not_lt, Int.not_le, Bool.not_true, Bool.not_false, Bool.true_eq_false, Bool.false_eq_true, Decidable.not_not] at hc)))) | (refine Gw_u fun A hA => ?_; simp only [↓Tr.get_set, Nat.reduceEqDiff, if_true, if_false, ↓reduceIte, g6, f12, f18, f22, f23, f25, f131, f132, f133, hsl7.ia, hrow, hgs, hln]; refine Gu_mk (hA ?_); clear hA A) | (refine GR.mk ?_; simp only [gresults, ↓Tr.get_set, Option.bind_some, Nat.reduceEqDiff, if_true, if_false, ↓reduceIte, gld_1, gld_n, g6, f12, f18, f22, f23, f25, f131, f132, f133, hsl7.ia, hrow, hgs, hln]; refine ⟨_, rfl, ?_⟩; simp only [gone]))
        refine hJJ _ _ ⟨t - (y + 1), by omega, y + 1, rfl, by omega, ?_⟩
        rw [hOs]
        simp only [↓Tr.get_set, Nat.reduceEqDiff, if_true, if_false, ↓reduceIte, Int.natCast_add, Int.cast_ofNat_Int, Int.natCast_zero, true_and, and_true, Option.some.injEq, Value.int.injEq, f12, f18, f22, f23, f131, f132]
        exact hS9.trans ((Same.refl hw9).new _ _)
      · obtain rfl : y = t := by omega
        have hW9 := hW7.later hS9
        have hwt : H9.rd (blk wv) (ofs wv + y * 3 + 2) = some W[y]!.2 := hW9.own.rd.row recC_len (by omega) (by decide)
        have hln := (hW9.data W[y]! (by rw [getElem!_pos W y (by omega)]; exact List.getElem_mem _)).1.isSl.len
        rw [hWg y htz, dmR_len, hP] at hln
        generalize hO : 13 + y * (17 + P) = O at *
        repeat' (first | (exfalso; omega) | refine GW_seq ?_ | refine GW_line ?_ | refine Gw_nil ?_ | refine GN_seq ?_ | refine GN_blk ?_ | refine GW_block ?_ | refine GW_skip ?_ | refine GW_exit ?_ | refine GX_seq ?_ | refine GX_blk ?_ | refine GX_up rfl ?_ | refine GX_inv ?_ | refine GW_ret ?_ | refine GN_inv ?_ | refine GN_nil ?_ | refine GW_any rfl ?_ | refine Gp_nil ?_ | ((first | refine Gw_s fun K' hK' => ?_ | refine Gp_s fun K' hK' => ?_ | refine Gw_0 fun K' hK' => ?_ | intro K' hK'); (simp (disch := (first | (simp only [SD, SF, beq_self_eq_true, Nat.reduceLT, Nat.reduceAdd]; done) | ((fail_if_success (apply Bool.eq_iff_iff.2)); first | omega | (simp only [SD, SF, beq_self_eq_true, Nat.reduceLT, Nat.reduceAdd] <;> omega)) | fail)) only [↓SA, ↓GArg.ev, ↓evs, ↓evOpt, ↓evParts, ↓reduceIte, SB, SC, setL, if_true, if_false, Nat.reduceEqDiff, Nat.reduceAdd, Nat.reduceMul, reduceCtorEq, Int.reduceToNat, g6, f12, f18, f22, f23, f25, f131, f132, f133, hWsl.ia, hsl7.len, hwt, hln, hL7l, q8]; refine G1_go (hK' _ _ ?_); clear hK' K')) | ((first | refine Gw_dt fun A B C D hA hB hC hD => ?_ | refine Gw_df fun A B C D hA hB hC hD => ?_ | refine GW_cd fun A B C D hA hB hC hD => ?_); (simp only [↓Tr.get_set, Nat.reduceEqDiff, if_true, if_false, ↓reduceIte, g6, f12, f18, f22, f23, f25, f131, f132, f133, hWsl.ia, hsl7.len, hwt, hln, hL7l, q8]; first | (refine Gd_true (hA ?_); clear hA hB hC hD A B C D) | (refine Gd_false (hB ?_); clear hA hB hC hD A B C D) | (refine Gd_some (fun hc => hC ?_) (fun hc => hD ?_) <;> clear hA hB hC hD A B C D <;> (try simp only [decide_eq_true_eq, decide_eq_false_iff_not, Bool.not_eq_true', Bool.not_eq_false', Int.not_lt, Int.not_le, Bool.not_true, Bool.not_false, Bool.true_eq_false, Bool.false_eq_true, Decidable.not_not] at hc)))) | (refine Gw_u fun A hA => ?_; simp only [↓Tr.get_set, Nat.reduceEqDiff, if_true, if_false, ↓reduceIte, g6, f12, f18, f22, f23, f25, f131, f132, f133, hWsl.ia, hsl7.len, hwt, hln, hL7l, q8]; refine Gu_mk (hA ?_); clear hA A) | (refine GR.mk ?_; simp only [gresults, ↓Tr.get_set, Option.bind_some, Nat.reduceEqDiff, if_true, if_false, ↓reduceIte, gld_1, gld_n, g6, f12, f18, f22, f23, f25, f131, f132, f133, hWsl.ia, hsl7.len, hwt, hln, hL7l, q8]; refine ⟨_, rfl, ?_⟩; simp only [gone]))
        have hlog9 : LogAt H9 k7 i _ := (hS9.mine (mine_lt hw7 hk7m)).trans hk7m
        intro K' hK'; refine G1_call (by simp only [gtarget, ↓GArg.ev, ↓evs, ↓Tr.get_set, Nat.reduceEqDiff, if_true, if_false, ↓reduceIte, Option.map_some, f22, f23]; rfl) (next_ok hlog9) fun r10 H10 hq => hK' _ _ ?_
        obtain ⟨rfl, rfl⟩ := hq
        repeat' (first | (exfalso; omega) | refine GW_seq ?_ | refine GW_line ?_ | refine Gw_nil ?_ | refine GN_seq ?_ | refine GN_blk ?_ | refine GW_block ?_ | refine GW_skip ?_ | refine GW_exit ?_ | refine GX_seq ?_ | refine GX_blk ?_ | refine GX_up rfl ?_ | refine GX_inv ?_ | refine GW_ret ?_ | refine GN_inv ?_ | refine GN_nil ?_ | refine GW_any rfl ?_ | refine Gp_nil ?_ | ((first | refine Gw_s fun K' hK' => ?_ | refine Gp_s fun K' hK' => ?_ | refine Gw_0 fun K' hK' => ?_ | intro K' hK'); (simp (disch := (first | (simp only [SD, SF, beq_self_eq_true, Nat.reduceLT, Nat.reduceAdd]; done) | ((fail_if_success (apply Bool.eq_iff_iff.2)); first | omega | (simp only [SD, SF, beq_self_eq_true, Nat.reduceLT, Nat.reduceAdd] <;> omega)) | fail)) only [↓SA, ↓GArg.ev, ↓evs, ↓evOpt, ↓evParts, ↓reduceIte, SB, SC, setL, if_true, if_false, Nat.reduceEqDiff, Nat.reduceAdd, Nat.reduceMul, reduceCtorEq, Int.reduceToNat, g6, f22, f23, hsl7.len]; refine G1_go (hK' _ _ ?_); clear hK' K')) | ((first | refine Gw_dt fun A B C D hA hB hC hD => ?_ | refine Gw_df fun A B C D hA hB hC hD => ?_ | refine GW_cd fun A B C D hA hB hC hD => ?_); (simp only [↓Tr.get_set, Nat.reduceEqDiff, if_true, if_false, ↓reduceIte, g6, f22, f23, hsl7.len]; first | (refine Gd_true (hA ?_); clear hA hB hC hD A B C D) | (refine Gd_false (hB ?_); clear hA hB hC hD A B C D) | (refine Gd_some (fun hc => hC ?_) (fun hc => hD ?_) <;> clear hA hB hC hD A B C D <;> (try simp only [decide_eq_true_eq, decide_eq_false_iff_not, Bool.not_eq_true', Bool.not_eq_false', Int.not_lt, Int.not_le, Bool.not_true, Bool.not_false, Bool.true_eq_false, Bool.false_eq_true, Decidable.not_not] at hc)))) | (refine Gw_u fun A hA => ?_; simp only [↓Tr.get_set, Nat.reduceEqDiff, if_true, if_false, ↓reduceIte, g6, f22, f23, hsl7.len]; refine Gu_mk (hA ?_); clear hA A) | (refine GR.mk ?_; simp only [gresults, ↓Tr.get_set, Option.bind_some, Nat.reduceEqDiff, if_true, if_false, ↓reduceIte, gld_1, gld_n, g6, f22, f23, hsl7.len]; refine ⟨_, rfl, ?_⟩; simp only [gone]))
        have e1 : decide (O ≤ (104 + A) / 8) = true := decide_eq_true (by omega)
        refine hPost _ _ ?_
        congr 1
        rw [decide_eq_true_eq]
        omega
theorem damage_law {H : GHeap} (hw : H.wf) {gvs : List Value} (h : RdAs H [.int .u8, .int .u16, .sl (.int .u8)] gvs) : ∃ v H2, gev G 6 gvs H = some (v, H2) ∧ v = .bool true := by
  obtain ⟨_, _, rfl, h1, _, _, rfl, h2, _, _, rfl, h3, rfl⟩ := h
  obtain ⟨n, rfl, hn⟩ := h1.int_
  have hn := wf_u8 hn
  obtain ⟨z, rfl⟩ : ∃ z : Nat, n = z := ⟨n.toNat, by omega⟩
  obtain ⟨m, rfl, hm⟩ := h2.int_
  have hm := wf_u16 hm
  obtain ⟨y, rfl⟩ : ∃ z : Nat, m = z := ⟨m.toNat, by omega⟩
  obtain ⟨p, hp, hpl⟩ := h3.bytesR_
  exact damage_ok hw hp hpl (by omega) (by omega)
end Go.Gh
