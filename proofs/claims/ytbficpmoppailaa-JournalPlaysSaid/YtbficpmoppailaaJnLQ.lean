/-
  The law JournalPlays, walked.
-/
import Derived.Test.YtbficpmoppailaaJnQ2
namespace Go.Gh
set_option linter.unusedSimpArgs false
set_option linter.unusedVariables false
set_option maxHeartbeats 4000000
open Go.RowKit
set_option maxRecDepth 4000

set_option maxHeartbeats 8000000 in
theorem plays_ok {H : GHeap} (hw : H.wf) {v : Value} {L : List AcE} (hv : GArg1 H 3 v L.length (L.flatMap acC)) (hL : ∀ x ∈ L, AcOk H x) (hll : L.length ≤ maxLen) {z : Nat} (hz : z ≤ 255) :
    ∃ r H', gev G 8 [.int .u8 z, v] H = some (r, H') ∧ r = .bool true := by
  refine gev_GW (f := 8) rfl fun Post hPost => ?_
  have hll : L.length ≤ 9223372036854775807 := hll
  have hsl := hv.rd.isSl
  simp only [frameOf, Nat.reduceAdd]
  repeat' (first | refine zn ?_ | refine zK rfl ?_ | refine zP rfl ?_ | ((first | refine zm ?_ | skip); intro _; intros; simp (disch := first | exact zd | fail) only [↓yS, yT, gresults, gone, ↓reduceIte, Nat.reduceEqDiff, Nat.reduceAdd, Nat.reduceMul, reduceCtorEq, Int.reduceToNat, g8]; first | (rename_i K k; (first | refine yC (k _ _ ?_) | refine zg (k _ ?_)); clear k K) | (rename_i A B C D a b c d; (first | refine zx (a ?_) | refine zy (b ?_) | refine zz (fun hc => c ?_) (fun hc => d ?_) | refine zv (b ?_) | refine zw (a ?_)) <;> clear a b c d A B C D <;> try simp only [yL] at hc)) | refine zA ?_ | refine zB ?_ | refine zF ?_)
  refine Gw_s fun K' hK' => G1_call (by simp only [gtarget, ↓GArg.ev, ↓evs, ↓Tr.get_set, Nat.reduceEqDiff, if_true, if_false, ↓reduceIte, Option.map_some]; rfl) (awake_ok H) fun r0 H0 hq => hK' _ _ ?_
  obtain ⟨rfl, rfl⟩ := hq
  have hcz : IntKind.i64.wrap (z : Int) = (z : Int) := wr_i64 (by omega)
  repeat' (first | refine zn ?_ | refine zK rfl ?_ | refine zP rfl ?_ | ((first | refine zm ?_ | skip); intro _; intros; simp (disch := first | exact zd | fail) only [↓yS, yT, gresults, gone, ↓reduceIte, Nat.reduceEqDiff, Nat.reduceAdd, Nat.reduceMul, reduceCtorEq, Int.reduceToNat, g8, hcz]; first | (rename_i K k; (first | refine yC (k _ _ ?_) | refine zg (k _ ?_)); clear k K) | (rename_i A B C D a b c d; (first | refine zx (a ?_) | refine zy (b ?_) | refine zz (fun hc => c ?_) (fun hc => d ?_) | refine zv (b ?_) | refine zw (a ?_)) <;> clear a b c d A B C D <;> try simp only [yL] at hc)) | refine zA ?_ | refine zB ?_ | refine zF ?_)
  refine Gw_s fun K' hK' => G1_call (by simp only [gtarget, ↓GArg.ev, ↓evs, ↓Tr.get_set, Nat.reduceEqDiff, if_true, if_false, ↓reduceIte, Option.map_some]; rfl) (newmem_ok hw (size := 64 + (z : Int)) (by omega)) fun r1 H1 hq => hK' _ _ ?_
  unfold NewOut at hq
  rw [if_neg (by omega)] at hq
  obtain ⟨i, j, rfl, hM1, hS1, hi, hj⟩ := hq
  rw [show (64 + (z : Int)).toNat = 64 + z by omega] at hM1
  generalize h2s : 2 * (64 + z) + 1 = gc at hM1
  have hg1 := good_new (n := 64 + z) (by omega)
  repeat' (first | refine zn ?_ | refine zK rfl ?_ | refine zP rfl ?_ | ((first | refine zm ?_ | skip); intro _; intros; simp (disch := first | exact zd | fail) only [↓yS, yT, gresults, gone, ↓reduceIte, Nat.reduceEqDiff, Nat.reduceAdd, Nat.reduceMul, reduceCtorEq, Int.reduceToNat, g8, hcz]; first | (rename_i K k; (first | refine yC (k _ _ ?_) | refine zg (k _ ?_)); clear k K) | (rename_i A B C D a b c d; (first | refine zx (a ?_) | refine zy (b ?_) | refine zz (fun hc => c ?_) (fun hc => d ?_) | refine zv (b ?_) | refine zw (a ?_)) <;> clear a b c d A B C D <;> try simp only [yL] at hc)) | refine zA ?_ | refine zB ?_ | refine zF ?_)
  refine Gw_s fun K' hK' => G1_call (by simp only [gtarget, ↓GArg.ev, ↓evs, ↓Tr.get_set, Nat.reduceEqDiff, if_true, if_false, ↓reduceIte, Option.map_some]; rfl) (rnewmem_ok hS1.wf (size := 64 + (z : Int)) (by omega)) fun r2 H2 hq => hK' _ _ ?_
  unfold RNewOut at hq
  rw [if_neg (by omega)] at hq
  obtain ⟨dv, rfl, hO2⟩ := hq
  rw [show (64 + (z : Int)).toNat = 64 + z by omega] at hO2 ⊢
  have hop := hg1.open_
  have hm0o : (⟨newB (64 + z), false, 0, false⟩ : JM).off = false := rfl
  have hdat : (⟨newB (64 + z), false, 0, false⟩ : JM).data = newB (64 + z) := rfl
  rw [← hdat] at hop hO2
  have hbd0 : LB ⟨0, 1, 13, 1, false, false⟩ := ⟨by decide, by decide, by decide⟩
  generalize (⟨newB (64 + z), false, 0, false⟩ : JM) = m0 at *
  simp only [] at hop
  have hf2 := hO2.rb.flat
  have hw2 := hO2.same.wf
  have g5 : gsetn [.int .i64 0, .slice none 0 0, .bool false, .int .i64 0, .bool false] 0 5 (rmV dv m0) = some (rmC dv m0) := rm_gset rfl hf2
  have hS3 := (Same.refl hw2).new (.cells [.int .i64 0, .slice none 0 0, .bool false, .int .i64 0, .bool false] 0 true) (.cells (rmC dv m0) 0 true)
  have hm3 : ((H2.add (some (.cells [.int .i64 0, .slice none 0 0, .bool false, .int .i64 0, .bool false] 0 true))).put H2.len (.cells (rmC dv m0) 0 true)).mine H2.len = some (rmC dv m0, 0) := mine_put_same (by rw [lim_add]; exact hw2.1)
  have hlim2 := hw2.1
  repeat' (first | refine zn ?_ | refine zK rfl ?_ | refine zP rfl ?_ | ((first | refine zm ?_ | skip); intro _; intros; simp (disch := first | exact zd | fail) only [↓yS, yT, gresults, gone, ↓reduceIte, Nat.reduceEqDiff, Nat.reduceAdd, Nat.reduceMul, reduceCtorEq, Int.reduceToNat, g8, g5]; first | (rename_i K k; (first | refine yC (k _ _ ?_) | refine zg (k _ ?_)); clear k K) | (rename_i A B C D a b c d; (first | refine zx (a ?_) | refine zy (b ?_) | refine zz (fun hc => c ?_) (fun hc => d ?_) | refine zv (b ?_) | refine zw (a ?_)) <;> clear a b c d A B C D <;> try simp only [yL] at hc)) | refine zA ?_ | refine zB ?_ | refine zF ?_)
  generalize ((H2.add (some (.cells [.int .i64 0, .slice none 0 0, .bool false, .int .i64 0, .bool false] 0 true))).put H2.len (.cells (rmC dv m0) 0 true)) = H3 at *
  have hM3 := (hM1.later hS1.wf hO2.same).later hw2 hS3
  refine Gw_s fun K' hK' => G1_call (by simp only [gtarget, ↓GArg.ev, ↓evs, ↓Tr.get_set, Nat.reduceEqDiff, if_true, if_false, ↓reduceIte, Option.map_some]; rfl) (jopen_ok hS3.wf hM3) fun r4 H4 hq => hK' _ _ ?_
  unfold JOpenOut at hq
  rw [if_neg (by rw [hm0o]; decide), hop] at hq
  obtain ⟨k, v4, L4, rfl, hk, hk4, hT4, hL4⟩ := hq
  have hS4 := hT4.own.same
  have h3l := mine_lt hS3.wf hm3
  have hm4 : H4.mine H2.len = some (rmC dv m0, 0) := by rw [hS4.mine h3l]; exact hm3
  have hO4 := (hO2.later hS3).later hS4
  have e4 := rm_rdn hm4
  have hlow := hM3.low
  have hbig := hM3.big
  repeat' (first | refine zn ?_ | refine zK rfl ?_ | refine zP rfl ?_ | ((first | refine zm ?_ | skip); intro _; intros; simp (disch := first | exact zd | fail) only [↓yS, yT, gresults, gone, ↓reduceIte, Nat.reduceEqDiff, Nat.reduceAdd, Nat.reduceMul, reduceCtorEq, Int.reduceToNat, g8, e4]; first | (rename_i K k; (first | refine yC (k _ _ ?_) | refine zg (k _ ?_)); clear k K) | (rename_i A B C D a b c d; (first | refine zx (a ?_) | refine zy (b ?_) | refine zz (fun hc => c ?_) (fun hc => d ?_) | refine zv (b ?_) | refine zw (a ?_)) <;> clear a b c d A B C D <;> try simp only [yL] at hc)) | refine zA ?_ | refine zB ?_ | refine zF ?_)
  refine Gw_s fun K' hK' => G1_call (by simp only [gtarget, ↓GArg.ev, ↓evs, ↓Tr.get_set, Nat.reduceEqDiff, if_true, if_false, ↓reduceIte, Option.map_some]; rfl) (ropenJ_ok hS4.wf ⟨hO4.rb, hbig, hlow⟩) fun r5 H5 hq => hK' _ _ ?_
  unfold ROpenOut at hq
  rw [if_neg (by rw [hm0o]; decide), hop] at hq
  obtain ⟨v5, L5, rfl, hQ5, hL5⟩ := hq
  have hS5 := hQ5.own.same
  have hw5 := hS5.wf
  have g6 : gsetn [.int .i64 0, .int .i64 0, .int .i64 0, .int .u64 0, .bool false, .bool false] 0 6 (rlV ⟨0, 1, 13, 1, false, false⟩) = some (rlC ⟨0, 1, 13, 1, false, false⟩) := rl_gset rfl
  have hS6 := (Same.refl hw5).new (.cells [.int .i64 0, .int .i64 0, .int .i64 0, .int .u64 0, .bool false, .bool false] 0 true) (.cells (rlC ⟨0, 1, 13, 1, false, false⟩) 0 true)
  have hm6 : ((H5.add (some (.cells [.int .i64 0, .int .i64 0, .int .i64 0, .int .u64 0, .bool false, .bool false] 0 true))).put H5.len (.cells (rlC ⟨0, 1, 13, 1, false, false⟩) 0 true)).mine H5.len = some (rlC ⟨0, 1, 13, 1, false, false⟩, 0) := mine_put_same (by rw [lim_add]; exact hw5.1)
  have hlim5 := hw5.1
  repeat' (first | refine zn ?_ | refine zK rfl ?_ | refine zP rfl ?_ | ((first | refine zm ?_ | skip); intro _; intros; simp (disch := first | exact zd | fail) only [↓yS, yT, gresults, gone, ↓reduceIte, Nat.reduceEqDiff, Nat.reduceAdd, Nat.reduceMul, reduceCtorEq, Int.reduceToNat, g8, g6]; first | (rename_i K k; (first | refine yC (k _ _ ?_) | refine zg (k _ ?_)); clear k K) | (rename_i A B C D a b c d; (first | refine zx (a ?_) | refine zy (b ?_) | refine zz (fun hc => c ?_) (fun hc => d ?_) | refine zv (b ?_) | refine zw (a ?_)) <;> clear a b c d A B C D <;> try simp only [yL] at hc)) | refine zA ?_ | refine zB ?_ | refine zF ?_)
  generalize ((H5.add (some (.cells [.int .i64 0, .int .i64 0, .int .i64 0, .int .u64 0, .bool false, .bool false] 0 true))).put H5.len (.cells (rlC ⟨0, 1, 13, 1, false, false⟩) 0 true)) = H6 at *
  generalize (⟨0, 1, 13, 1, false, false⟩ : JL) = l0 at *
  have q1 := mine_lt hS1.wf hM1.obj
  have q2 := mine_lt hS1.wf hM1.dat
  have q3 := hO2.same.len
  have q4 := hS4.len
  have q5 := hS5.len
  have q6 := hS1.len
  have q7 := hS3.len
  have q8 := mine_lt hS4.wf hk4
  have hdi : ∀ a ∈ idOf dv, H1.len ≤ a ∧ a < H2.len := fun a ha => ⟨hO2.young' a ha, hO2.rb.idlt hw2 a ha⟩
  have hSH : Same H H6 := ((((hS1.trans hO2.same).trans hS3).trans hS4).trans hS5).trans hS6
  have hP0 : PI H H6 i j gc k H2.len H5.len dv m0 m0 l0 := by
    refine ⟨hSH, ?_, hm6, ?_, fun a ha => ⟨?_, ?_, ?_⟩, ?_, ?_, by omega, ⟨hi, hj, by omega, by omega, by omega⟩, ⟨hS6.wf, ?_, ?_, by omega⟩, ⟨rfl, rfl, rfl, fun _ => rfl⟩, fun e => absurd (hm0o.symm.trans e) (by decide), hbd0⟩
    · rw [hS6.mine (by omega), hS5.mine (by omega)]; exact hm4
    · exact ((hO4.later hS5).later hS6).rb
    · have := hdi a ha
      rintro (e | e | e) <;> omega
    · have := hdi a ha
      omega
    · have := hdi a ha
      omega
    · rintro (e | e | e) <;> omega
    · rintro (e | e | e) <;> omega
    · exact ((hM3.later hS3.wf hS4).later hS4.wf hS5).later hw5 hS6
    · show H6.mine k = _
      rw [hS6.mine (by omega), hS5.mine q8]; exact hk4
  have hai : H2.len < H6.len ∧ H5.len < H6.len := ⟨mine_lt hS6.wf hP0.m7, mine_lt hS6.wf hm6⟩
  generalize H2.len = a7 at *
  generalize H5.len = a12 at *
  clear hdi hSH hm6 hm4 hm3 hS6 hS5 hS4 hS3 hT4 hQ5 hO4 hO2 hM3 hM1 hS1 hk4 g5 g6 e4
  refine GW_loop (fun q fr HX => ∃ (n k : Nat) (dv : Value) (m m' : JM) (l : JL), q = 20 - n ∧ fr.get 1 = some (v) ∧ fr.get 5 = some (ptr i) ∧ fr.get 7 = some (.pointer (some ⟨a7, 0, none⟩)) ∧ fr.get 9 = some (ptr k) ∧ fr.get 12 = some (.pointer (some ⟨a12, 0, none⟩)) ∧ fr.get 15 = some (.int .i64 n) ∧ PI H HX i j gc k a7 a12 dv m m' l) ?_ 20 ?_
  case refine_2 =>
    refine ⟨0, k, dv, m0, m0, l0, by omega, ?_⟩
    simp only [↓yG, Nat.reduceEqDiff, ↓reduceIte, Int.natCast_add, Int.cast_ofNat_Int, Int.natCast_zero, true_and, and_true, Option.some.injEq, Value.int.injEq, ptr]
    exact hP0
  clear hP0 hai
  rintro q fr HX ⟨n, k, dv, m, m', l, rfl, f1, f5, f7, f9, f12, f15, hP⟩ J hJ
  by_cases hgo : n < L.length ∧ n < 20
  case neg =>
    repeat' (first | (exfalso; omega) | refine zn ?_ | refine zK rfl ?_ | refine zP rfl ?_ | ((first | refine zm ?_ | skip); intro _; intros; simp (disch := first | exact zd | fail) only [↓yS, yT, gresults, gone, ↓reduceIte, Nat.reduceEqDiff, Nat.reduceAdd, Nat.reduceMul, reduceCtorEq, Int.reduceToNat, g8, f1, f5, f7, f9, f12, f15, hsl.len]; first | (rename_i K k; (first | refine yC (k _ _ ?_) | refine zg (k _ ?_)); clear k K) | (rename_i A B C D a b c d; (first | refine zx (a ?_) | refine zy (b ?_) | refine zz (fun hc => c ?_) (fun hc => d ?_) | refine zv (b ?_) | refine zw (a ?_)) <;> clear a b c d A B C D <;> try simp only [yL] at hc)) | refine zA ?_ | refine zB ?_ | refine zF ?_)
    all_goals exact hPost _ _ rfl
  obtain ⟨hn1, hn2⟩ := hgo
  obtain ⟨hpR, hpl, hwt, hwn⟩ := hL L[n]! (by rw [getElem!_pos L n hn1]; exact List.getElem_mem hn1)
  have hpl : L[n]!.p.length ≤ 9223372036854775807 := hpl
  have hwt := wf_u8 hwt
  have hwn := wf_i64 hwn
  have hrow := (hv.same hw hP.same).rd.rowN acC_len (by decide) hn1
  simp only [acC] at hrow
  have hfv : flatV L[n]!.v = true := hpR.flat
  have hst : gsetn [.int .u8 0, .int .i64 0, .slice none 0 0] 0 3 (.agg #[.int .u8 L[n]!.t, .int .i64 L[n]!.n, L[n]!.v]) = some [.int .u8 L[n]!.t, .int .i64 L[n]!.n, L[n]!.v] := gsetn_all rfl rfl (by simp only [List.all_cons, List.all_nil, flatV_int, hfv, Bool.and_self])
  have hwX := hP.same.wf
  have hlimX := hwX.1
  have hS4 := (Same.refl hwX).new (.cells [.int .u8 0, .int .i64 0, .slice none 0 0] 0 true) (.cells [.int .u8 L[n]!.t, .int .i64 L[n]!.n, L[n]!.v] 0 true)
  have hm16 : ((HX.add (some (.cells [.int .u8 0, .int .i64 0, .slice none 0 0] 0 true))).put HX.len (.cells [.int .u8 L[n]!.t, .int .i64 L[n]!.n, L[n]!.v] 0 true)).mine HX.len = some ([.int .u8 L[n]!.t, .int .i64 L[n]!.n, L[n]!.v], 0) := mine_put_same (by rw [lim_add]; exact hlimX)
  have hP4 := hP.later hS4
  have hw4 := hS4.wf
  have hXl := mine_lt hwX hP.m7
  have hXl2 := mine_lt hwX hP.m12
  have hX16 : ¬ jo i j k HX.len := by
    have q1 := mine_lt hwX hP.jat.mem.obj
    have q2 := mine_lt hwX hP.jat.mem.dat
    have q3 := mine_lt hwX hP.jat.log
    rintro (e | e | e) <;> omega
  have hq9 : ∀ e, gbin .rem e (.int .u8 L[n]!.t) (.int .u8 9) = some (.int .u8 (L[n]!.t % 9)) := fun e => by
    rw [gb_rem (by omega), Int.tmod_eq_emod_of_nonneg (by omega)]
  have hbig := hP.jat.mem.big
  have hlow := hP.jat.mem.low
  have hcs : (L[n]!.t % 9 = 0 ∨ L[n]!.t % 9 = 1 ∨ L[n]!.t % 9 = 2 ∨ L[n]!.t % 9 = 3) ∨ L[n]!.t % 9 = 4 ∨ L[n]!.t % 9 = 5 ∨ L[n]!.t % 9 = 6 ∨ L[n]!.t % 9 = 8 ∨ L[n]!.t % 9 = 7 := by omega
  have hyo := hP.y
  rcases hcs with hA | e | e | e | e | e
  case' inl =>
    rcases hA with e | e | e | e
    all_goals rw [e] at hq9
    repeat' (first | (exfalso; omega) | refine zn ?_ | refine zK rfl ?_ | refine zP rfl ?_ | ((first | refine zm ?_ | skip); intro _; intros; simp (disch := first | exact zd | fail) only [↓yS, yT, gresults, gone, ↓reduceIte, Nat.reduceEqDiff, Nat.reduceAdd, Nat.reduceMul, reduceCtorEq, Int.reduceToNat, g8, f1, f5, f7, f9, f12, f15, hsl.len, hsl.ia, hrow, hst, hq9]; first | (rename_i K k; (first | refine yC (k _ _ ?_) | refine zg (k _ ?_)); clear k K) | (rename_i A B C D a b c d; (first | refine zx (a ?_) | refine zy (b ?_) | refine zz (fun hc => c ?_) (fun hc => d ?_) | refine zv (b ?_) | refine zw (a ?_)) <;> clear a b c d A B C D <;> try simp only [yL] at hc)) | refine zA ?_ | refine zB ?_ | refine zF ?_)
    all_goals
      generalize ((HX.add (some (.cells [.int .u8 0, .int .i64 0, .slice none 0 0] 0 true))).put HX.len (.cells [.int .u8 L[n]!.t, .int .i64 L[n]!.n, L[n]!.v] 0 true)) = H4 at *
      have hpv4 := hpR.same_ hw hP4.same
      have h42 : H4.rd HX.len 2 = some L[n]!.v := mine_rd hm16
      repeat' (first | (exfalso; omega) | refine zn ?_ | refine zK rfl ?_ | refine zP rfl ?_ | ((first | refine zm ?_ | skip); intro _; intros; simp (disch := first | exact zd | fail) only [↓yS, yT, gresults, gone, ↓reduceIte, Nat.reduceEqDiff, Nat.reduceAdd, Nat.reduceMul, reduceCtorEq, Int.reduceToNat, g8, f1, f5, f7, f9, f12, f15, h42]; first | (rename_i K k; (first | refine yC (k _ _ ?_) | refine zg (k _ ?_)); clear k K) | (rename_i A B C D a b c d; (first | refine zx (a ?_) | refine zy (b ?_) | refine zz (fun hc => c ?_) (fun hc => d ?_) | refine zv (b ?_) | refine zw (a ?_)) <;> clear a b c d A B C D <;> try simp only [yL] at hc)) | refine zA ?_ | refine zB ?_ | refine zF ?_)
      refine Gw_s fun K' hK' => G1_call (by simp only [gtarget, ↓GArg.ev, ↓evs, ↓Tr.get_set, Nat.reduceEqDiff, if_true, if_false, ↓reduceIte, Option.map_some, f1, f5, f7, f9, f12, f15]; rfl) (cut_ok hpv4 hpl) fun pv Hc hq => hK' _ _ ?_
      obtain ⟨hpv, hpi, rfl⟩ := hq
      have hpj : ∀ a ∈ idOf pv, ¬ jo i j k a := fun a ha => by
        have := GArg1.ids hw hpR a (hpi a ha)
        rintro (e | e | e) <;> omega
      have hP60 : (L[n]!.p.take 60).length ≤ 60 := by simp; omega
      generalize hPP : L[n]!.p.take 60 = P at *
      obtain ⟨r1, r2, r3⟩ := app_rel hP4.rl hP4.br P
      obtain ⟨b1, b2⟩ := app_bd hP4.bd hbig P
      rcases hxx : appendJ m l P with ⟨mx, lx, nx, ex⟩
      rcases hyy : rappJ m' l P with ⟨my, ly, ny, ey⟩
      rw [hxx] at r1 r2 r3 b1 b2
      rw [hyy] at r1 r2
      simp only [Prod.mk.injEq] at r1
      obtain ⟨rfl, rfl, rfl⟩ := r1
      dsimp only at r2 r3 b1 b2
      repeat' (first | (exfalso; omega) | refine zn ?_ | refine zK rfl ?_ | refine zP rfl ?_ | ((first | refine zm ?_ | skip); intro _; intros; simp (disch := first | exact zd | fail) only [↓yS, yT, gresults, gone, ↓reduceIte, Nat.reduceEqDiff, Nat.reduceAdd, Nat.reduceMul, reduceCtorEq, Int.reduceToNat, g8, f1, f5, f7, f9, f12, f15]; first | (rename_i K k; (first | refine yC (k _ _ ?_) | refine zg (k _ ?_)); clear k K) | (rename_i A B C D a b c d; (first | refine zx (a ?_) | refine zy (b ?_) | refine zz (fun hc => c ?_) (fun hc => d ?_) | refine zv (b ?_) | refine zw (a ?_)) <;> clear a b c d A B C D <;> try simp only [yL] at hc)) | refine zA ?_ | refine zB ?_ | refine zF ?_)
      refine Gw_s fun K' hK' => G1_call (by simp only [gtarget, ↓GArg.ev, ↓evs, ↓Tr.get_set, Nat.reduceEqDiff, if_true, if_false, ↓reduceIte, Option.map_some, f1, f5, f7, f9, f12, f15]; rfl) (append_ok hP4.jat hP4.bd.bank hP4.bd.fin hpv hpj (by omega)) fun r5 H5 hq => hK' _ _ ?_
      rw [hxx] at hq
      dsimp only at hq
      obtain ⟨rfl, hJ5, hB5⟩ := hq
      have hw5 := hJ5.wf
      have h57 : H5.mine a7 = some (rmC dv m', 0) := by rw [hB5.mine (mine_lt hw4 hP4.m7) hP4.n7]; exact hP4.m7
      have h512 : H5.mine a12 = some (rlC l, 0) := by rw [hB5.mine (mine_lt hw4 hP4.m12) hP4.n12]; exact hP4.m12
      have h516 := (hB5.mine (mine_lt hw4 hm16) hX16).trans hm16
      have hR5 : RB H5 dv m'.data := hP4.rb.but hw4 hB5 fun a ha => (hP4.dis a ha).1
      have hSH5 : Same H H5 := hB5.same hP4.same fun q hq e => by rcases e with e | e | e <;> omega
      have hpv5 := hpR.same_ hw hSH5
      have g1 := rm_rdn h57
      have g2 := rl_rdn h512
      have g3 : H5.rd HX.len 2 = some L[n]!.v := mine_rd h516
      repeat' (first | (exfalso; omega) | refine zn ?_ | refine zK rfl ?_ | refine zP rfl ?_ | ((first | refine zm ?_ | skip); intro _; intros; simp (disch := first | exact zd | fail) only [↓yS, yT, gresults, gone, ↓reduceIte, Nat.reduceEqDiff, Nat.reduceAdd, Nat.reduceMul, reduceCtorEq, Int.reduceToNat, g8, f1, f5, f7, f9, f12, f15, g1, g2, g3]; first | (rename_i K k; (first | refine yC (k _ _ ?_) | refine zg (k _ ?_)); clear k K) | (rename_i A B C D a b c d; (first | refine zx (a ?_) | refine zy (b ?_) | refine zz (fun hc => c ?_) (fun hc => d ?_) | refine zv (b ?_) | refine zw (a ?_)) <;> clear a b c d A B C D <;> try simp only [yL] at hc)) | refine zA ?_ | refine zB ?_ | refine zF ?_)
      refine Gw_s fun K' hK' => G1_callM (by simp only [gtarget, ↓GArg.ev, ↓evs, ↓Tr.get_set, Nat.reduceEqDiff, if_true, if_false, ↓reduceIte, Option.map_some, f1, f5, f7, f9, f12, f15]; rfl) (cut_ok hpv5.up hpl) fun pw Hd hq => hK' _ _ ?_
      obtain ⟨hpw, hpwi, rfl⟩ := hq
      rw [updown]
      rw [hPP] at hpw
      have hpw : RB H5 pw P := ⟨hpw.rd, hpw.sl⟩
      repeat' (first | (exfalso; omega) | refine zn ?_ | refine zK rfl ?_ | refine zP rfl ?_ | ((first | refine zm ?_ | skip); intro _; intros; simp (disch := first | exact zd | fail) only [↓yS, yT, gresults, gone, ↓reduceIte, Nat.reduceEqDiff, Nat.reduceAdd, Nat.reduceMul, reduceCtorEq, Int.reduceToNat, g8, f1, f5, f7, f9, f12, f15]; first | (rename_i K k; (first | refine yC (k _ _ ?_) | refine zg (k _ ?_)); clear k K) | (rename_i A B C D a b c d; (first | refine zx (a ?_) | refine zy (b ?_) | refine zz (fun hc => c ?_) (fun hc => d ?_) | refine zv (b ?_) | refine zw (a ?_)) <;> clear a b c d A B C D <;> try simp only [yL] at hc)) | refine zA ?_ | refine zB ?_ | refine zF ?_)
      refine Gw_s fun K' hK' => G1_callM (by simp only [gtarget, ↓GArg.ev, ↓evs, ↓Tr.get_set, Nat.reduceEqDiff, if_true, if_false, ↓reduceIte, Option.map_some, f1, f5, f7, f9, f12, f15]; rfl) (rappend_ok (wf_up hw5) ⟨hR5.up, by rw [hP.rl.data]; exact hbig, by rw [hP.rl.data]; exact hlow⟩ hP4.bd.bank hP4.bd.fin hpw.up (by omega)) fun r6 H6 hq => hK' _ _ ?_
      unfold RWOut at hq
      rw [hyy] at hq
      dsimp only at hq
      obtain ⟨dv2, rfl, hR6, hS6, hid⟩ := hq
      have hS6 := hS6.down hw5
      have hid : ∀ a ∈ idOf dv2, a ∈ idOf dv ∨ H5.len ≤ a := hid
      have hR6 : RB (H6.down H5.lim) dv2 my.data := ⟨hR6.rd, hR6.sl⟩
      generalize H6.down H5.lim = H7 at *
      obtain ⟨s1, s2, s3, s4, hPf⟩ := hP4.step hJ5 hB5 hS6 hR6 hid r2 r3 b1
      repeat' (first | (exfalso; omega) | refine zn ?_ | refine zK rfl ?_ | refine zP rfl ?_ | ((first | refine zm ?_ | skip); intro _; intros; simp (disch := first | exact zd | fail) only [↓yS, yT, gresults, gone, ↓reduceIte, Nat.reduceEqDiff, Nat.reduceAdd, Nat.reduceMul, reduceCtorEq, Int.reduceToNat, g8, f1, f5, f7, f9, f12, f15, s1, s2, s3, s4]; first | (rename_i K k; (first | refine yC (k _ _ ?_) | refine zg (k _ ?_)); clear k K) | (rename_i A B C D a b c d; (first | refine zx (a ?_) | refine zy (b ?_) | refine zz (fun hc => c ?_) (fun hc => d ?_) | refine zv (b ?_) | refine zw (a ?_)) <;> clear a b c d A B C D <;> try simp only [yL] at hc)) | refine zA ?_ | refine zB ?_ | refine zF ?_)
      generalize ((H7.put a7 (.cells (rmC dv2 my) 0 true)).put a12 (.cells (rlC ly) 0 true)) = HF at *
      clear s1 s2 s3 s4 hR6 hid hS6 hR5 h57 h512 h516 g1 g2 g3 hB5 hJ5 hpw hpv hpv5 hpv4 hP4 hm16 hS4 h42
  case' inr.inl =>
    rw [e] at hq9
    repeat' (first | (exfalso; omega) | refine zn ?_ | refine zK rfl ?_ | refine zP rfl ?_ | ((first | refine zm ?_ | skip); intro _; intros; simp (disch := first | exact zd | fail) only [↓yS, yT, gresults, gone, ↓reduceIte, Nat.reduceEqDiff, Nat.reduceAdd, Nat.reduceMul, reduceCtorEq, Int.reduceToNat, g8, f1, f5, f7, f9, f12, f15, hsl.len, hsl.ia, hrow, hst, hq9]; first | (rename_i K k; (first | refine yC (k _ _ ?_) | refine zg (k _ ?_)); clear k K) | (rename_i A B C D a b c d; (first | refine zx (a ?_) | refine zy (b ?_) | refine zz (fun hc => c ?_) (fun hc => d ?_) | refine zv (b ?_) | refine zw (a ?_)) <;> clear a b c d A B C D <;> try simp only [yL] at hc)) | refine zA ?_ | refine zB ?_ | refine zF ?_)
    all_goals
      generalize ((HX.add (some (.cells [.int .u8 0, .int .i64 0, .slice none 0 0] 0 true))).put HX.len (.cells [.int .u8 L[n]!.t, .int .i64 L[n]!.n, L[n]!.v] 0 true)) = H4 at *
      have hpv4 := hpR.same_ hw hP4.same
      have h42 : H4.rd HX.len 2 = some L[n]!.v := mine_rd hm16
      repeat' (first | (exfalso; omega) | refine zn ?_ | refine zK rfl ?_ | refine zP rfl ?_ | ((first | refine zm ?_ | skip); intro _; intros; simp (disch := first | exact zd | fail) only [↓yS, yT, gresults, gone, ↓reduceIte, Nat.reduceEqDiff, Nat.reduceAdd, Nat.reduceMul, reduceCtorEq, Int.reduceToNat, g8, f1, f5, f7, f9, f12, f15, h42]; first | (rename_i K k; (first | refine yC (k _ _ ?_) | refine zg (k _ ?_)); clear k K) | (rename_i A B C D a b c d; (first | refine zx (a ?_) | refine zy (b ?_) | refine zz (fun hc => c ?_) (fun hc => d ?_) | refine zv (b ?_) | refine zw (a ?_)) <;> clear a b c d A B C D <;> try simp only [yL] at hc)) | refine zA ?_ | refine zB ?_ | refine zF ?_)
      refine Gw_s fun K' hK' => G1_call (by simp only [gtarget, ↓GArg.ev, ↓evs, ↓Tr.get_set, Nat.reduceEqDiff, if_true, if_false, ↓reduceIte, Option.map_some, f1, f5, f7, f9, f12, f15]; rfl) (cut_ok hpv4 hpl) fun pv Hc hq => hK' _ _ ?_
      obtain ⟨hpv, hpi, rfl⟩ := hq
      have hpj : ∀ a ∈ idOf pv, ¬ jo i j k a := fun a ha => by
        have := GArg1.ids hw hpR a (hpi a ha)
        rintro (e | e | e) <;> omega
      have hP60 : (L[n]!.p.take 60).length ≤ 60 := by simp; omega
      generalize hPP : L[n]!.p.take 60 = P at *
      obtain ⟨r1, r2, r3⟩ := cmp_rel hP4.rl hP4.br P
      obtain ⟨b1, b2⟩ := cmp_bd hP4.bd hbig P
      rcases hxx : compactJ m l P with ⟨mx, lx, nx, ex⟩
      rcases hyy : rcmpJ m' l P with ⟨my, ly, ny, ey⟩
      rw [hxx] at r1 r2 r3 b1 b2
      rw [hyy] at r1 r2
      simp only [Prod.mk.injEq] at r1
      obtain ⟨rfl, rfl, rfl⟩ := r1
      dsimp only at r2 r3 b1 b2
      repeat' (first | (exfalso; omega) | refine zn ?_ | refine zK rfl ?_ | refine zP rfl ?_ | ((first | refine zm ?_ | skip); intro _; intros; simp (disch := first | exact zd | fail) only [↓yS, yT, gresults, gone, ↓reduceIte, Nat.reduceEqDiff, Nat.reduceAdd, Nat.reduceMul, reduceCtorEq, Int.reduceToNat, g8, f1, f5, f7, f9, f12, f15]; first | (rename_i K k; (first | refine yC (k _ _ ?_) | refine zg (k _ ?_)); clear k K) | (rename_i A B C D a b c d; (first | refine zx (a ?_) | refine zy (b ?_) | refine zz (fun hc => c ?_) (fun hc => d ?_) | refine zv (b ?_) | refine zw (a ?_)) <;> clear a b c d A B C D <;> try simp only [yL] at hc)) | refine zA ?_ | refine zB ?_ | refine zF ?_)
      refine Gw_s fun K' hK' => G1_call (by simp only [gtarget, ↓GArg.ev, ↓evs, ↓Tr.get_set, Nat.reduceEqDiff, if_true, if_false, ↓reduceIte, Option.map_some, f1, f5, f7, f9, f12, f15]; rfl) (compact_ok hP4.jat hP4.bd.bank hP4.bd.gen hpv hpj (by omega)) fun r5 H5 hq => hK' _ _ ?_
      rw [hxx] at hq
      dsimp only at hq
      obtain ⟨rfl, hJ5, hB5⟩ := hq
      have hw5 := hJ5.wf
      have h57 : H5.mine a7 = some (rmC dv m', 0) := by rw [hB5.mine (mine_lt hw4 hP4.m7) hP4.n7]; exact hP4.m7
      have h512 : H5.mine a12 = some (rlC l, 0) := by rw [hB5.mine (mine_lt hw4 hP4.m12) hP4.n12]; exact hP4.m12
      have h516 := (hB5.mine (mine_lt hw4 hm16) hX16).trans hm16
      have hR5 : RB H5 dv m'.data := hP4.rb.but hw4 hB5 fun a ha => (hP4.dis a ha).1
      have hSH5 : Same H H5 := hB5.same hP4.same fun q hq e => by rcases e with e | e | e <;> omega
      have hpv5 := hpR.same_ hw hSH5
      have g1 := rm_rdn h57
      have g2 := rl_rdn h512
      have g3 : H5.rd HX.len 2 = some L[n]!.v := mine_rd h516
      repeat' (first | (exfalso; omega) | refine zn ?_ | refine zK rfl ?_ | refine zP rfl ?_ | ((first | refine zm ?_ | skip); intro _; intros; simp (disch := first | exact zd | fail) only [↓yS, yT, gresults, gone, ↓reduceIte, Nat.reduceEqDiff, Nat.reduceAdd, Nat.reduceMul, reduceCtorEq, Int.reduceToNat, g8, f1, f5, f7, f9, f12, f15, g1, g2, g3]; first | (rename_i K k; (first | refine yC (k _ _ ?_) | refine zg (k _ ?_)); clear k K) | (rename_i A B C D a b c d; (first | refine zx (a ?_) | refine zy (b ?_) | refine zz (fun hc => c ?_) (fun hc => d ?_) | refine zv (b ?_) | refine zw (a ?_)) <;> clear a b c d A B C D <;> try simp only [yL] at hc)) | refine zA ?_ | refine zB ?_ | refine zF ?_)
      refine Gw_s fun K' hK' => G1_callM (by simp only [gtarget, ↓GArg.ev, ↓evs, ↓Tr.get_set, Nat.reduceEqDiff, if_true, if_false, ↓reduceIte, Option.map_some, f1, f5, f7, f9, f12, f15]; rfl) (cut_ok hpv5.up hpl) fun pw Hd hq => hK' _ _ ?_
      obtain ⟨hpw, hpwi, rfl⟩ := hq
      rw [updown]
      rw [hPP] at hpw
      have hpw : RB H5 pw P := ⟨hpw.rd, hpw.sl⟩
      repeat' (first | (exfalso; omega) | refine zn ?_ | refine zK rfl ?_ | refine zP rfl ?_ | ((first | refine zm ?_ | skip); intro _; intros; simp (disch := first | exact zd | fail) only [↓yS, yT, gresults, gone, ↓reduceIte, Nat.reduceEqDiff, Nat.reduceAdd, Nat.reduceMul, reduceCtorEq, Int.reduceToNat, g8, f1, f5, f7, f9, f12, f15]; first | (rename_i K k; (first | refine yC (k _ _ ?_) | refine zg (k _ ?_)); clear k K) | (rename_i A B C D a b c d; (first | refine zx (a ?_) | refine zy (b ?_) | refine zz (fun hc => c ?_) (fun hc => d ?_) | refine zv (b ?_) | refine zw (a ?_)) <;> clear a b c d A B C D <;> try simp only [yL] at hc)) | refine zA ?_ | refine zB ?_ | refine zF ?_)
      refine Gw_s fun K' hK' => G1_callM (by simp only [gtarget, ↓GArg.ev, ↓evs, ↓Tr.get_set, Nat.reduceEqDiff, if_true, if_false, ↓reduceIte, Option.map_some, f1, f5, f7, f9, f12, f15]; rfl) (rcompact_ok (wf_up hw5) ⟨hR5.up, by rw [hP.rl.data]; exact hbig, by rw [hP.rl.data]; exact hlow⟩ hP4.bd.bank hP4.bd.gen hpw.up (by omega)) fun r6 H6 hq => hK' _ _ ?_
      unfold RWOut at hq
      rw [hyy] at hq
      dsimp only at hq
      obtain ⟨dv2, rfl, hR6, hS6, hid⟩ := hq
      have hS6 := hS6.down hw5
      have hid : ∀ a ∈ idOf dv2, a ∈ idOf dv ∨ H5.len ≤ a := hid
      have hR6 : RB (H6.down H5.lim) dv2 my.data := ⟨hR6.rd, hR6.sl⟩
      generalize H6.down H5.lim = H7 at *
      obtain ⟨s1, s2, s3, s4, hPf⟩ := hP4.step hJ5 hB5 hS6 hR6 hid r2 r3 b1
      repeat' (first | (exfalso; omega) | refine zn ?_ | refine zK rfl ?_ | refine zP rfl ?_ | ((first | refine zm ?_ | skip); intro _; intros; simp (disch := first | exact zd | fail) only [↓yS, yT, gresults, gone, ↓reduceIte, Nat.reduceEqDiff, Nat.reduceAdd, Nat.reduceMul, reduceCtorEq, Int.reduceToNat, g8, f1, f5, f7, f9, f12, f15, s1, s2, s3, s4]; first | (rename_i K k; (first | refine yC (k _ _ ?_) | refine zg (k _ ?_)); clear k K) | (rename_i A B C D a b c d; (first | refine zx (a ?_) | refine zy (b ?_) | refine zz (fun hc => c ?_) (fun hc => d ?_) | refine zv (b ?_) | refine zw (a ?_)) <;> clear a b c d A B C D <;> try simp only [yL] at hc)) | refine zA ?_ | refine zB ?_ | refine zF ?_)
      generalize ((H7.put a7 (.cells (rmC dv2 my) 0 true)).put a12 (.cells (rlC ly) 0 true)) = HF at *
      clear s1 s2 s3 s4 hR6 hid hS6 hR5 h57 h512 h516 g1 g2 g3 hB5 hJ5 hpw hpv hpv5 hpv4 hP4 hm16 hS4 h42
  case' inr.inr.inl =>
    rw [e] at hq9
    repeat' (first | (exfalso; omega) | refine zn ?_ | refine zK rfl ?_ | refine zP rfl ?_ | ((first | refine zm ?_ | skip); intro _; intros; simp (disch := first | exact zd | fail) only [↓yS, yT, gresults, gone, ↓reduceIte, Nat.reduceEqDiff, Nat.reduceAdd, Nat.reduceMul, reduceCtorEq, Int.reduceToNat, g8, f1, f5, f7, f9, f12, f15, hsl.len, hsl.ia, hrow, hst, hq9]; first | (rename_i K k; (first | refine yC (k _ _ ?_) | refine zg (k _ ?_)); clear k K) | (rename_i A B C D a b c d; (first | refine zx (a ?_) | refine zy (b ?_) | refine zz (fun hc => c ?_) (fun hc => d ?_) | refine zv (b ?_) | refine zw (a ?_)) <;> clear a b c d A B C D <;> try simp only [yL] at hc)) | refine zA ?_ | refine zB ?_ | refine zF ?_)
    generalize ((HX.add (some (.cells [.int .u8 0, .int .i64 0, .slice none 0 0] 0 true))).put HX.len (.cells [.int .u8 L[n]!.t, .int .i64 L[n]!.n, L[n]!.v] 0 true)) = H4 at *
    refine Gw_s fun K' hK' => G1_call (by simp only [gtarget, ↓GArg.ev, ↓evs, ↓Tr.get_set, Nat.reduceEqDiff, if_true, if_false, ↓reduceIte, Option.map_some, f1, f5, f7, f9, f12, f15]; rfl) (arm_ok hw4 hP4.jat.mem hwn) fun r5 H5 hq => hK' _ _ ?_
    obtain ⟨hM5, hB5⟩ := hq
    have hJ5 := hP4.jat.memBut hM5 hB5
    have hB5 := hB5.mono (T := jo i j k) mo_jo
    have hw5 := hJ5.wf
    have h57 : H5.mine a7 = some (rmC dv m', 0) := by rw [hB5.mine (mine_lt hw4 hP4.m7) hP4.n7]; exact hP4.m7
    have h516 := (hB5.mine (mine_lt hw4 hm16) hX16).trans hm16
    have hR5 : RB H5 dv m'.data := hP4.rb.but hw4 hB5 fun a ha => (hP4.dis a ha).1
    have g1 := rm_rdn h57
    have g3 : H5.rd HX.len 1 = some (.int .i64 L[n]!.n) := mine_rd h516
    repeat' (first | (exfalso; omega) | refine zn ?_ | refine zK rfl ?_ | refine zP rfl ?_ | ((first | refine zm ?_ | skip); intro _; intros; simp (disch := first | exact zd | fail) only [↓yS, yT, gresults, gone, ↓reduceIte, Nat.reduceEqDiff, Nat.reduceAdd, Nat.reduceMul, reduceCtorEq, Int.reduceToNat, g8, f1, f5, f7, f9, f12, f15, g1, g3]; first | (rename_i K k; (first | refine yC (k _ _ ?_) | refine zg (k _ ?_)); clear k K) | (rename_i A B C D a b c d; (first | refine zx (a ?_) | refine zy (b ?_) | refine zz (fun hc => c ?_) (fun hc => d ?_) | refine zv (b ?_) | refine zw (a ?_)) <;> clear a b c d A B C D <;> try simp only [yL] at hc)) | refine zA ?_ | refine zB ?_ | refine zF ?_)
    refine Gw_s fun K' hK' => G1_call (by simp only [gtarget, ↓GArg.ev, ↓evs, ↓Tr.get_set, Nat.reduceEqDiff, if_true, if_false, ↓reduceIte, Option.map_some, f1, f5, f7, f9, f12, f15]; rfl) (rarm_ok (m := m') hw5 hR5.flat hwn) fun r6 H6 hq => hK' _ _ ?_
    obtain ⟨rfl, hS6⟩ := hq
    have hrl := hP4.rl.arm (max L[n]!.n 0)
    have hbr : ({m with armed := true, left := max L[n]!.n 0} : JM).off = true → l.broken = true := hP4.br
    have hR6 : RB H6 dv ({m' with armed := true, left := max L[n]!.n 0} : JM).data := hR5.same_ hw5 hS6
    generalize ({m with armed := true, left := max L[n]!.n 0} : JM) = m2 at hJ5 hrl hbr hM5
    generalize ({m' with armed := true, left := max L[n]!.n 0} : JM) = m2' at *
    obtain ⟨s1, s2, hPf⟩ := hP4.arm hJ5 hB5 hS6 hR6 (fun a ha => .inl ha) hrl hbr
    repeat' (first | (exfalso; omega) | refine zn ?_ | refine zK rfl ?_ | refine zP rfl ?_ | ((first | refine zm ?_ | skip); intro _; intros; simp (disch := first | exact zd | fail) only [↓yS, yT, gresults, gone, ↓reduceIte, Nat.reduceEqDiff, Nat.reduceAdd, Nat.reduceMul, reduceCtorEq, Int.reduceToNat, g8, f1, f5, f7, f9, f12, f15, s1, s2]; first | (rename_i K k; (first | refine yC (k _ _ ?_) | refine zg (k _ ?_)); clear k K) | (rename_i A B C D a b c d; (first | refine zx (a ?_) | refine zy (b ?_) | refine zz (fun hc => c ?_) (fun hc => d ?_) | refine zv (b ?_) | refine zw (a ?_)) <;> clear a b c d A B C D <;> try simp only [yL] at hc)) | refine zA ?_ | refine zB ?_ | refine zF ?_)
    generalize H6.put a7 (.cells (rmC dv m2') 0 true) = HF at *
    clear s1 s2 hS6 hR5 h57 h516 g1 g3 hB5 hJ5 hP4 hm16 hS4
  case' inr.inr.inr.inr.inr =>
    rw [e] at hq9
    repeat' (first | (exfalso; omega) | refine zn ?_ | refine zK rfl ?_ | refine zP rfl ?_ | ((first | refine zm ?_ | skip); intro _; intros; simp (disch := first | exact zd | fail) only [↓yS, yT, gresults, gone, ↓reduceIte, Nat.reduceEqDiff, Nat.reduceAdd, Nat.reduceMul, reduceCtorEq, Int.reduceToNat, g8, f1, f5, f7, f9, f12, f15, hsl.len, hsl.ia, hrow, hst, hq9]; first | (rename_i K k; (first | refine yC (k _ _ ?_) | refine zg (k _ ?_)); clear k K) | (rename_i A B C D a b c d; (first | refine zx (a ?_) | refine zy (b ?_) | refine zz (fun hc => c ?_) (fun hc => d ?_) | refine zv (b ?_) | refine zw (a ?_)) <;> clear a b c d A B C D <;> try simp only [yL] at hc)) | refine zA ?_ | refine zB ?_ | refine zF ?_)
    generalize ((HX.add (some (.cells [.int .u8 0, .int .i64 0, .slice none 0 0] 0 true))).put HX.len (.cells [.int .u8 L[n]!.t, .int .i64 L[n]!.n, L[n]!.v] 0 true)) = H4 at *
    refine Gw_s fun K' hK' => G1_call (by simp only [gtarget, ↓GArg.ev, ↓evs, ↓Tr.get_set, Nat.reduceEqDiff, if_true, if_false, ↓reduceIte, Option.map_some, f1, f5, f7, f9, f12, f15]; rfl) (flip_ok hw4 hP4.jat.mem hwn) fun r5 H5 hq => hK' _ _ ?_
    obtain ⟨rfl, hM5, hB5⟩ := hq
    have hJ5 := hP4.jat.memBut hM5 hB5
    have hB5 := hB5.mono (T := jo i j k) mo_jo
    have hw5 := hJ5.wf
    have h57 : H5.mine a7 = some (rmC dv m', 0) := by rw [hB5.mine (mine_lt hw4 hP4.m7) hP4.n7]; exact hP4.m7
    have h516 := (hB5.mine (mine_lt hw4 hm16) hX16).trans hm16
    have hR5 : RB H5 dv m'.data := hP4.rb.but hw4 hB5 fun a ha => (hP4.dis a ha).1
    have g1 := rm_rdn h57
    have g3 : H5.rd HX.len 1 = some (.int .i64 L[n]!.n) := mine_rd h516
    obtain ⟨l1, l2, l3, l4⟩ := hP4.rl.flip L[n]!.n
    repeat' (first | (exfalso; omega) | refine zn ?_ | refine zK rfl ?_ | refine zP rfl ?_ | ((first | refine zm ?_ | skip); intro _; intros; simp (disch := first | exact zd | fail) only [↓yS, yT, gresults, gone, ↓reduceIte, Nat.reduceEqDiff, Nat.reduceAdd, Nat.reduceMul, reduceCtorEq, Int.reduceToNat, g8, f1, f5, f7, f9, f12, f15, g1, g3]; first | (rename_i K k; (first | refine yC (k _ _ ?_) | refine zg (k _ ?_)); clear k K) | (rename_i A B C D a b c d; (first | refine zx (a ?_) | refine zy (b ?_) | refine zz (fun hc => c ?_) (fun hc => d ?_) | refine zv (b ?_) | refine zw (a ?_)) <;> clear a b c d A B C D <;> try simp only [yL] at hc)) | refine zA ?_ | refine zB ?_ | refine zF ?_)
    refine Gw_s fun K' hK' => G1_call (by simp only [gtarget, ↓GArg.ev, ↓evs, ↓Tr.get_set, Nat.reduceEqDiff, if_true, if_false, ↓reduceIte, Option.map_some, f1, f5, f7, f9, f12, f15]; rfl) (rflip_ok hw5 (m := m') ⟨hR5, by rw [hP.rl.data]; exact hbig, by rw [hP.rl.data]; exact hlow⟩ hwn) fun r6 H6 hq => hK' _ _ ?_
    obtain ⟨dv2, rfl, hR6, hS6, hid⟩ := hq
    rw [l2]
    have hbr : (flipJ m L[n]!.n).off = true → l.broken = true := by rw [l3]; exact hP4.br
    clear l2 l3 l4
    generalize flipJ m L[n]!.n = m2 at *
    generalize flipJ m' L[n]!.n = m2' at *
    generalize flipE m L[n]!.n = fe at *
    have hw6 := hS6.wf
    have hlim6 := hw6.1
    have hS7 := (Same.refl hw6).new (.cells [.int .i64 0, .slice none 0 0, .bool false, .int .i64 0, .bool false] 0 true) (.cells (rmC dv2 m2') 0 true)
    have g7 : gsetn [.int .i64 0, .slice none 0 0, .bool false, .int .i64 0, .bool false] 0 5 (rmV dv2 m2') = some (rmC dv2 m2') := rm_gset rfl hR6.flat
    have g8' : ((H6.add (some (.cells [.int .i64 0, .slice none 0 0, .bool false, .int .i64 0, .bool false] 0 true))).put H6.len (.cells (rmC dv2 m2') 0 true)).rdn H6.len 0 5 = some (rmV dv2 m2') := rm_put
    obtain ⟨s1, s2, hPf⟩ := hP4.arm hJ5 hB5 (hS6.trans hS7) (hR6.same_ hw6 hS7) hid l1 hbr
    repeat' (first | (exfalso; omega) | refine zn ?_ | refine zK rfl ?_ | refine zP rfl ?_ | ((first | refine zm ?_ | skip); intro _; intros; simp (disch := first | exact zd | fail) only [↓yS, yT, gresults, gone, ↓reduceIte, Nat.reduceEqDiff, Nat.reduceAdd, Nat.reduceMul, reduceCtorEq, Int.reduceToNat, g8, f1, f5, f7, f9, f12, f15, g7, g8', s1, s2]; first | (rename_i K k; (first | refine yC (k _ _ ?_) | refine zg (k _ ?_)); clear k K) | (rename_i A B C D a b c d; (first | refine zx (a ?_) | refine zy (b ?_) | refine zz (fun hc => c ?_) (fun hc => d ?_) | refine zv (b ?_) | refine zw (a ?_)) <;> clear a b c d A B C D <;> try simp only [yL] at hc)) | refine zA ?_ | refine zB ?_ | refine zF ?_)
    generalize ((H6.add (some (.cells [.int .i64 0, .slice none 0 0, .bool false, .int .i64 0, .bool false] 0 true))).put H6.len (.cells (rmC dv2 m2') 0 true)).put a7 (.cells (rmC dv2 m2') 0 true) = HF at *
  case' inr.inr.inr.inl =>
    rw [e] at hq9
    repeat' (first | (exfalso; omega) | refine zn ?_ | refine zK rfl ?_ | refine zP rfl ?_ | ((first | refine zm ?_ | skip); intro _; intros; simp (disch := first | exact zd | fail) only [↓yS, yT, gresults, gone, ↓reduceIte, Nat.reduceEqDiff, Nat.reduceAdd, Nat.reduceMul, reduceCtorEq, Int.reduceToNat, g8, f1, f5, f7, f9, f12, f15, hsl.len, hsl.ia, hrow, hst, hq9]; first | (rename_i K k; (first | refine yC (k _ _ ?_) | refine zg (k _ ?_)); clear k K) | (rename_i A B C D a b c d; (first | refine zx (a ?_) | refine zy (b ?_) | refine zz (fun hc => c ?_) (fun hc => d ?_) | refine zv (b ?_) | refine zw (a ?_)) <;> clear a b c d A B C D <;> try simp only [yL] at hc)) | refine zA ?_ | refine zB ?_ | refine zF ?_)
    generalize ((HX.add (some (.cells [.int .u8 0, .int .i64 0, .slice none 0 0] 0 true))).put HX.len (.cells [.int .u8 L[n]!.t, .int .i64 L[n]!.n, L[n]!.v] 0 true)) = H4 at *
    refine Gw_s fun K' hK' => G1_call (by simp only [gtarget, ↓GArg.ev, ↓evs, ↓Tr.get_set, Nat.reduceEqDiff, if_true, if_false, ↓reduceIte, Option.map_some, f1, f5, f7, f9, f12, f15]; rfl) (on_ok hw4 hP4.jat.mem) fun r5 H5 hq => hK' _ _ ?_
    obtain ⟨hM5, hB5⟩ := hq
    have hJ5 := hP4.jat.memBut hM5 hB5
    have hB5 := hB5.mono (T := jo i j k) mo_jo
    have hw5 := hJ5.wf
    have h57 : H5.mine a7 = some (rmC dv m', 0) := by rw [hB5.mine (mine_lt hw4 hP4.m7) hP4.n7]; exact hP4.m7
    have h516 := (hB5.mine (mine_lt hw4 hm16) hX16).trans hm16
    have hR5 : RB H5 dv m'.data := hP4.rb.but hw4 hB5 fun a ha => (hP4.dis a ha).1
    have g1 := rm_rdn h57
    have g3 : H5.rd HX.len 1 = some (.int .i64 L[n]!.n) := mine_rd h516
    repeat' (first | (exfalso; omega) | refine zn ?_ | refine zK rfl ?_ | refine zP rfl ?_ | ((first | refine zm ?_ | skip); intro _; intros; simp (disch := first | exact zd | fail) only [↓yS, yT, gresults, gone, ↓reduceIte, Nat.reduceEqDiff, Nat.reduceAdd, Nat.reduceMul, reduceCtorEq, Int.reduceToNat, g8, f1, f5, f7, f9, f12, f15, g1]; first | (rename_i K k; (first | refine yC (k _ _ ?_) | refine zg (k _ ?_)); clear k K) | (rename_i A B C D a b c d; (first | refine zx (a ?_) | refine zy (b ?_) | refine zz (fun hc => c ?_) (fun hc => d ?_) | refine zv (b ?_) | refine zw (a ?_)) <;> clear a b c d A B C D <;> try simp only [yL] at hc)) | refine zA ?_ | refine zB ?_ | refine zF ?_)
    refine Gw_s fun K' hK' => G1_call (by simp only [gtarget, ↓GArg.ev, ↓evs, ↓Tr.get_set, Nat.reduceEqDiff, if_true, if_false, ↓reduceIte, Option.map_some, f1, f5, f7, f9, f12, f15]; rfl) (ron_ok (m := m') hw5 hR5.flat) fun r6 H6 hq => hK' _ _ ?_
    obtain ⟨rfl, hS6⟩ := hq
    have hrl := hP4.rl.on
    have hbr : ({m with armed := false, left := 0, off := false} : JM).off = true → l.broken = true := fun e => by cases e
    have hR6 : RB H6 dv ({m' with armed := false, left := 0, off := false} : JM).data := hR5.same_ hw5 hS6
    generalize ({m with armed := false, left := 0, off := false} : JM) = m2 at hJ5 hrl hbr hM5
    generalize ({m' with armed := false, left := 0, off := false} : JM) = m2' at *
    obtain ⟨s1, s2, hPn⟩ := hP4.arm hJ5 hB5 hS6 hR6 (fun a ha => .inl ha) hrl hbr
    repeat' (first | (exfalso; omega) | refine zn ?_ | refine zK rfl ?_ | refine zP rfl ?_ | ((first | refine zm ?_ | skip); intro _; intros; simp (disch := first | exact zd | fail) only [↓yS, yT, gresults, gone, ↓reduceIte, Nat.reduceEqDiff, Nat.reduceAdd, Nat.reduceMul, reduceCtorEq, Int.reduceToNat, g8, f1, f5, f7, f9, f12, f15, s1, s2]; first | (rename_i K k; (first | refine yC (k _ _ ?_) | refine zg (k _ ?_)); clear k K) | (rename_i A B C D a b c d; (first | refine zx (a ?_) | refine zy (b ?_) | refine zz (fun hc => c ?_) (fun hc => d ?_) | refine zv (b ?_) | refine zw (a ?_)) <;> clear a b c d A B C D <;> try simp only [yL] at hc)) | refine zA ?_ | refine zB ?_ | refine zF ?_)
    generalize H6.put a7 (.cells (rmC dv m2') 0 true) = HN at *
    clear s1 s2 hS6 hR5 h57 h516 g1 g3 hB5 hJ5 hP4 hm16 hS4
    have hwN := hPn.same.wf
    refine Gw_s fun K' hK' => G1_call (by simp only [gtarget, ↓GArg.ev, ↓evs, ↓Tr.get_set, Nat.reduceEqDiff, if_true, if_false, ↓reduceIte, Option.map_some, f1, f5, f7, f9, f12, f15]; rfl) (jopen_ok hwN hPn.jat.mem) fun r10 H10 hq => hK' _ _ ?_
    unfold JOpenOut at hq
    rcases hoff : m2.off with _ | _
    case' true =>
      rw [if_pos hoff] at hq
      obtain ⟨rfl, hS10⟩ := hq
      have hP10 := hPn.later hS10
      have v1 := hP10.rds.1
      repeat' (first | (exfalso; omega) | refine zn ?_ | refine zK rfl ?_ | refine zP rfl ?_ | ((first | refine zm ?_ | skip); intro _; intros; simp (disch := first | exact zd | fail) only [↓yS, yT, gresults, gone, ↓reduceIte, Nat.reduceEqDiff, Nat.reduceAdd, Nat.reduceMul, reduceCtorEq, Int.reduceToNat, g8, f1, f5, f7, f9, f12, f15, v1]; first | (rename_i K k; (first | refine yC (k _ _ ?_) | refine zg (k _ ?_)); clear k K) | (rename_i A B C D a b c d; (first | refine zx (a ?_) | refine zy (b ?_) | refine zz (fun hc => c ?_) (fun hc => d ?_) | refine zv (b ?_) | refine zw (a ?_)) <;> clear a b c d A B C D <;> try simp only [yL] at hc)) | refine zA ?_ | refine zB ?_ | refine zF ?_)
      refine Gw_s fun K' hK' => G1_call (by simp only [gtarget, ↓GArg.ev, ↓evs, ↓Tr.get_set, Nat.reduceEqDiff, if_true, if_false, ↓reduceIte, Option.map_some, f1, f5, f7, f9, f12, f15]; rfl) (ropenJ_ok hP10.same.wf hP10.rm) fun r11 H11 hq => hK' _ _ ?_
      unfold ROpenOut at hq
      rw [hPn.rl.off, if_pos hoff] at hq
      obtain ⟨rfl, hS11⟩ := hq
      have hw11 := hS11.wf
      have hlim11 := hw11.1
      have g9 : gsetn [.int .i64 0, .int .i64 0, .int .i64 0, .int .u64 0, .bool false, .bool false] 0 6 rl0 = some [.int .i64 0, .int .i64 0, .int .i64 0, .int .u64 0, .bool false, .bool false] := gsetn_all rfl rfl rfl
      have hS12 := (Same.refl hw11).new (.cells [.int .i64 0, .int .i64 0, .int .i64 0, .int .u64 0, .bool false, .bool false] 0 true) (.cells [.int .i64 0, .int .i64 0, .int .i64 0, .int .u64 0, .bool false, .bool false] 0 true)
      repeat' (first | (exfalso; omega) | refine zn ?_ | refine zK rfl ?_ | refine zP rfl ?_ | ((first | refine zm ?_ | skip); intro _; intros; simp (disch := first | exact zd | fail) only [↓yS, yT, gresults, gone, ↓reduceIte, Nat.reduceEqDiff, Nat.reduceAdd, Nat.reduceMul, reduceCtorEq, Int.reduceToNat, g8, f1, f5, f7, f9, f12, f15, g9]; first | (rename_i K k; (first | refine yC (k _ _ ?_) | refine zg (k _ ?_)); clear k K) | (rename_i A B C D a b c d; (first | refine zx (a ?_) | refine zy (b ?_) | refine zz (fun hc => c ?_) (fun hc => d ?_) | refine zv (b ?_) | refine zw (a ?_)) <;> clear a b c d A B C D <;> try simp only [yL] at hc)) | refine zA ?_ | refine zB ?_ | refine zF ?_)
      generalize ((H11.add (some (.cells [.int .i64 0, .int .i64 0, .int .i64 0, .int .u64 0, .bool false, .bool false] 0 true))).put H11.len (.cells [.int .i64 0, .int .i64 0, .int .i64 0, .int .u64 0, .bool false, .bool false] 0 true)) = HF at *
      have hPf := hP10.later (hS11.trans hS12)
      intro K' hK'; refine G1_call (by simp only [gtarget, ↓GArg.ev, ↓evs, ↓Tr.get_set, Nat.reduceEqDiff, if_true, if_false, ↓reduceIte, Option.map_some, f1, f5, f7, f9, f12, f15]; rfl) (same_ok (A := []) (B := []) ⟨(OS.nil (s := 3) (u := 3) (Same.refl hPf.same.wf)).rd, by simp⟩ ⟨(OS.nil (s := 3) (u := 3) (Same.refl hPf.same.wf)).rd, by simp⟩ (by decide)) fun r13 H13 hq => hK' _ _ ?_
      rw [sameR_true rfl] at hq
      obtain ⟨rfl, hh⟩ := hq
      have hh := hh.symm
      subst hh
      have w1 : gbin .eql (some EqK.ptr) (.pointer none) (.pointer none) = some (.bool true) := rfl
      have w2 : gbin .neq (some EqK.bool) (.bool true) (.bool true) = some (.bool false) := rfl
      have w3 : ∀ e, gbin .neq e (.int .i64 21) (.int .i64 0) = some (.bool true) := fun e => by rw [gb_neq']; rfl
      have w4 : ∀ e, gbin .neq e (.int .i64 19) (.int .i64 0) = some (.bool true) := fun e => by rw [gb_neq']; rfl
      have w5 : ∀ e, gbin .neq e (.int .i64 0) (.int .i64 0) = some (.bool false) := fun e => by rw [gb_neq']; rfl
      repeat' (first | (exfalso; omega) | refine zn ?_ | refine zK rfl ?_ | refine zP rfl ?_ | ((first | refine zm ?_ | skip); intro _; intros; simp (disch := first | exact zd | fail) only [↓yS, yT, gresults, gone, ↓reduceIte, Nat.reduceEqDiff, Nat.reduceAdd, Nat.reduceMul, reduceCtorEq, Int.reduceToNat, g8, f1, f5, f7, f9, f12, f15, w1, w2, w3, w4, w5]; first | (rename_i K k; (first | refine yC (k _ _ ?_) | refine zg (k _ ?_)); clear k K) | (rename_i A B C D a b c d; (first | refine zx (a ?_) | refine zy (b ?_) | refine zz (fun hc => c ?_) (fun hc => d ?_) | refine zv (b ?_) | refine zw (a ?_)) <;> clear a b c d A B C D <;> try simp only [yL] at hc)) | refine zA ?_ | refine zB ?_ | refine zF ?_)
    case' false =>
      rw [if_neg (by rw [hoff]; decide)] at hq
      rcases hop : openJ m2.data with _ | ⟨lo, rs⟩
    case' false.none =>
      rw [hop] at hq
      dsimp only at hq
      obtain ⟨rfl, hS10⟩ := hq
      have hP10 := hPn.later hS10
      have v1 := hP10.rds.1
      repeat' (first | (exfalso; omega) | refine zn ?_ | refine zK rfl ?_ | refine zP rfl ?_ | ((first | refine zm ?_ | skip); intro _; intros; simp (disch := first | exact zd | fail) only [↓yS, yT, gresults, gone, ↓reduceIte, Nat.reduceEqDiff, Nat.reduceAdd, Nat.reduceMul, reduceCtorEq, Int.reduceToNat, g8, f1, f5, f7, f9, f12, f15, v1]; first | (rename_i K k; (first | refine yC (k _ _ ?_) | refine zg (k _ ?_)); clear k K) | (rename_i A B C D a b c d; (first | refine zx (a ?_) | refine zy (b ?_) | refine zz (fun hc => c ?_) (fun hc => d ?_) | refine zv (b ?_) | refine zw (a ?_)) <;> clear a b c d A B C D <;> try simp only [yL] at hc)) | refine zA ?_ | refine zB ?_ | refine zF ?_)
      refine Gw_s fun K' hK' => G1_call (by simp only [gtarget, ↓GArg.ev, ↓evs, ↓Tr.get_set, Nat.reduceEqDiff, if_true, if_false, ↓reduceIte, Option.map_some, f1, f5, f7, f9, f12, f15]; rfl) (ropenJ_ok hP10.same.wf hP10.rm) fun r11 H11 hq => hK' _ _ ?_
      unfold ROpenOut at hq
      rw [hPn.rl.off, if_neg (by rw [hoff]; decide), hPn.rl.data, hop] at hq
      dsimp only at hq
      obtain ⟨rfl, hS11⟩ := hq
      have hw11 := hS11.wf
      have hlim11 := hw11.1
      have g9 : gsetn [.int .i64 0, .int .i64 0, .int .i64 0, .int .u64 0, .bool false, .bool false] 0 6 rl0 = some [.int .i64 0, .int .i64 0, .int .i64 0, .int .u64 0, .bool false, .bool false] := gsetn_all rfl rfl rfl
      have hS12 := (Same.refl hw11).new (.cells [.int .i64 0, .int .i64 0, .int .i64 0, .int .u64 0, .bool false, .bool false] 0 true) (.cells [.int .i64 0, .int .i64 0, .int .i64 0, .int .u64 0, .bool false, .bool false] 0 true)
      repeat' (first | (exfalso; omega) | refine zn ?_ | refine zK rfl ?_ | refine zP rfl ?_ | ((first | refine zm ?_ | skip); intro _; intros; simp (disch := first | exact zd | fail) only [↓yS, yT, gresults, gone, ↓reduceIte, Nat.reduceEqDiff, Nat.reduceAdd, Nat.reduceMul, reduceCtorEq, Int.reduceToNat, g8, f1, f5, f7, f9, f12, f15, g9]; first | (rename_i K k; (first | refine yC (k _ _ ?_) | refine zg (k _ ?_)); clear k K) | (rename_i A B C D a b c d; (first | refine zx (a ?_) | refine zy (b ?_) | refine zz (fun hc => c ?_) (fun hc => d ?_) | refine zv (b ?_) | refine zw (a ?_)) <;> clear a b c d A B C D <;> try simp only [yL] at hc)) | refine zA ?_ | refine zB ?_ | refine zF ?_)
      generalize ((H11.add (some (.cells [.int .i64 0, .int .i64 0, .int .i64 0, .int .u64 0, .bool false, .bool false] 0 true))).put H11.len (.cells [.int .i64 0, .int .i64 0, .int .i64 0, .int .u64 0, .bool false, .bool false] 0 true)) = HF at *
      have hPf := hP10.later (hS11.trans hS12)
      intro K' hK'; refine G1_call (by simp only [gtarget, ↓GArg.ev, ↓evs, ↓Tr.get_set, Nat.reduceEqDiff, if_true, if_false, ↓reduceIte, Option.map_some, f1, f5, f7, f9, f12, f15]; rfl) (same_ok (A := []) (B := []) ⟨(OS.nil (s := 3) (u := 3) (Same.refl hPf.same.wf)).rd, by simp⟩ ⟨(OS.nil (s := 3) (u := 3) (Same.refl hPf.same.wf)).rd, by simp⟩ (by decide)) fun r13 H13 hq => hK' _ _ ?_
      rw [sameR_true rfl] at hq
      obtain ⟨rfl, hh⟩ := hq
      have hh := hh.symm
      subst hh
      have w1 : gbin .eql (some EqK.ptr) (.pointer none) (.pointer none) = some (.bool true) := rfl
      have w2 : gbin .neq (some EqK.bool) (.bool true) (.bool true) = some (.bool false) := rfl
      have w3 : ∀ e, gbin .neq e (.int .i64 21) (.int .i64 0) = some (.bool true) := fun e => by rw [gb_neq']; rfl
      have w4 : ∀ e, gbin .neq e (.int .i64 19) (.int .i64 0) = some (.bool true) := fun e => by rw [gb_neq']; rfl
      have w5 : ∀ e, gbin .neq e (.int .i64 0) (.int .i64 0) = some (.bool false) := fun e => by rw [gb_neq']; rfl
      repeat' (first | (exfalso; omega) | refine zn ?_ | refine zK rfl ?_ | refine zP rfl ?_ | ((first | refine zm ?_ | skip); intro _; intros; simp (disch := first | exact zd | fail) only [↓yS, yT, gresults, gone, ↓reduceIte, Nat.reduceEqDiff, Nat.reduceAdd, Nat.reduceMul, reduceCtorEq, Int.reduceToNat, g8, f1, f5, f7, f9, f12, f15, w1, w2, w3, w4, w5]; first | (rename_i K k; (first | refine yC (k _ _ ?_) | refine zg (k _ ?_)); clear k K) | (rename_i A B C D a b c d; (first | refine zx (a ?_) | refine zy (b ?_) | refine zz (fun hc => c ?_) (fun hc => d ?_) | refine zv (b ?_) | refine zw (a ?_)) <;> clear a b c d A B C D <;> try simp only [yL] at hc)) | refine zA ?_ | refine zB ?_ | refine zF ?_)
    case' false.some =>
      rw [hop] at hq
      dsimp only at hq
      obtain ⟨k2, v2, L2, rfl, hk2, hk2m, hT2, hL2⟩ := hq
      have hS10 := hT2.own.same
      have hP10 := hPn.later hS10
      have v1 := hP10.rds.1
      repeat' (first | (exfalso; omega) | refine zn ?_ | refine zK rfl ?_ | refine zP rfl ?_ | ((first | refine zm ?_ | skip); intro _; intros; simp (disch := first | exact zd | fail) only [↓yS, yT, gresults, gone, ↓reduceIte, Nat.reduceEqDiff, Nat.reduceAdd, Nat.reduceMul, reduceCtorEq, Int.reduceToNat, g8, f1, f5, f7, f9, f12, f15, v1]; first | (rename_i K k; (first | refine yC (k _ _ ?_) | refine zg (k _ ?_)); clear k K) | (rename_i A B C D a b c d; (first | refine zx (a ?_) | refine zy (b ?_) | refine zz (fun hc => c ?_) (fun hc => d ?_) | refine zv (b ?_) | refine zw (a ?_)) <;> clear a b c d A B C D <;> try simp only [yL] at hc)) | refine zA ?_ | refine zB ?_ | refine zF ?_)
      refine Gw_s fun K' hK' => G1_call (by simp only [gtarget, ↓GArg.ev, ↓evs, ↓Tr.get_set, Nat.reduceEqDiff, if_true, if_false, ↓reduceIte, Option.map_some, f1, f5, f7, f9, f12, f15]; rfl) (ropenJ_ok hP10.same.wf hP10.rm) fun r11 H11 hq => hK' _ _ ?_
      unfold ROpenOut at hq
      rw [hPn.rl.off, if_neg (by rw [hoff]; decide), hPn.rl.data, hop] at hq
      dsimp only at hq
      obtain ⟨v3, L3, rfl, hQ3, hL3⟩ := hq
      have hS11 := hQ3.own.same
      have hw11 := hS11.wf
      have hlim11 := hw11.1
      have g9 : gsetn [.int .i64 0, .int .i64 0, .int .i64 0, .int .u64 0, .bool false, .bool false] 0 6 (rlV lo) = some (rlC lo) := rl_gset rfl
      have hS12 := (Same.refl hw11).new (.cells [.int .i64 0, .int .i64 0, .int .i64 0, .int .u64 0, .bool false, .bool false] 0 true) (.cells (rlC lo) 0 true)
      have g10 : ((H11.add (some (.cells [.int .i64 0, .int .i64 0, .int .i64 0, .int .u64 0, .bool false, .bool false] 0 true))).put H11.len (.cells (rlC lo) 0 true)).rdn H11.len 0 6 = some (rlV lo) := rl_put
      repeat' (first | (exfalso; omega) | refine zn ?_ | refine zK rfl ?_ | refine zP rfl ?_ | ((first | refine zm ?_ | skip); intro _; intros; simp (disch := first | exact zd | fail) only [↓yS, yT, gresults, gone, ↓reduceIte, Nat.reduceEqDiff, Nat.reduceAdd, Nat.reduceMul, reduceCtorEq, Int.reduceToNat, g8, f1, f5, f7, f9, f12, f15, g9]; first | (rename_i K k; (first | refine yC (k _ _ ?_) | refine zg (k _ ?_)); clear k K) | (rename_i A B C D a b c d; (first | refine zx (a ?_) | refine zy (b ?_) | refine zz (fun hc => c ?_) (fun hc => d ?_) | refine zv (b ?_) | refine zw (a ?_)) <;> clear a b c d A B C D <;> try simp only [yL] at hc)) | refine zA ?_ | refine zB ?_ | refine zF ?_)
      generalize ((H11.add (some (.cells [.int .i64 0, .int .i64 0, .int .i64 0, .int .u64 0, .bool false, .bool false] 0 true))).put H11.len (.cells (rlC lo) 0 true)) = H12 at *
      obtain ⟨o1, o2⟩ := openJ_bd hop hPn.jat.mem.big hPn.jat.mem.low
      have hR2 := ((hT2.later hS11).later hS12).r
      have hR3 := (hQ3.later hS12).r
      intro K' hK'; refine G1_call (by simp only [gtarget, ↓GArg.ev, ↓evs, ↓Tr.get_set, Nat.reduceEqDiff, if_true, if_false, ↓reduceIte, Option.map_some, f1, f5, f7, f9, f12, f15]; rfl) (same_ok hR2 hR3 (by rw [← hL2, List.length_map] at o2; exact o2)) fun r13 H13 hq => hK' _ _ ?_
      rw [sameR_true (hL2.trans hL3.symm)] at hq
      obtain ⟨rfl, rfl⟩ := hq
      have hm2 := mine_lt hS10.wf hk2m
      have hk12 : H13.mine k2 = some (logCells (ptr i) lo, 0) := by rw [hS12.mine (by have := hS11.len; omega), hS11.mine hm2]; exact hk2m
      obtain ⟨s1, s2, hPf⟩ := hPn.open_ hoff ((hS10.trans hS11).trans hS12) hk2 hk12 o1
      have w1 : gbin .eql (some EqK.ptr) (ptr k2) (.pointer none) = some (.bool false) := rfl
      have w2 : gbin .neq (some EqK.bool) (.bool false) (.bool false) = some (.bool false) := rfl
      have w3 : ∀ e, gbin .neq e (.int .i64 21) (.int .i64 0) = some (.bool true) := fun e => by rw [gb_neq']; rfl
      have w4 : ∀ e, gbin .neq e (.int .i64 19) (.int .i64 0) = some (.bool true) := fun e => by rw [gb_neq']; rfl
      have w5 : ∀ e, gbin .neq e (.int .i64 0) (.int .i64 0) = some (.bool false) := fun e => by rw [gb_neq']; rfl
      repeat' (first | (exfalso; omega) | refine zn ?_ | refine zK rfl ?_ | refine zP rfl ?_ | ((first | refine zm ?_ | skip); intro _; intros; simp (disch := first | exact zd | fail) only [↓yS, yT, gresults, gone, ↓reduceIte, Nat.reduceEqDiff, Nat.reduceAdd, Nat.reduceMul, reduceCtorEq, Int.reduceToNat, g8, f1, f5, f7, f9, f12, f15, w1, w2, w3, w4, w5]; first | (rename_i K k; (first | refine yC (k _ _ ?_) | refine zg (k _ ?_)); clear k K) | (rename_i A B C D a b c d; (first | refine zx (a ?_) | refine zy (b ?_) | refine zz (fun hc => c ?_) (fun hc => d ?_) | refine zv (b ?_) | refine zw (a ?_)) <;> clear a b c d A B C D <;> try simp only [yL] at hc)) | refine zA ?_ | refine zB ?_ | refine zF ?_)
      repeat' (first | (exfalso; omega) | refine zn ?_ | refine zK rfl ?_ | refine zP rfl ?_ | ((first | refine zm ?_ | skip); intro _; intros; simp (disch := first | exact zd | fail) only [↓yS, yT, gresults, gone, ↓reduceIte, Nat.reduceEqDiff, Nat.reduceAdd, Nat.reduceMul, reduceCtorEq, Int.reduceToNat, g8, f1, f5, f7, f9, f12, f15, g10, s1, s2]; first | (rename_i K k; (first | refine yC (k _ _ ?_) | refine zg (k _ ?_)); clear k K) | (rename_i A B C D a b c d; (first | refine zx (a ?_) | refine zy (b ?_) | refine zz (fun hc => c ?_) (fun hc => d ?_) | refine zv (b ?_) | refine zw (a ?_)) <;> clear a b c d A B C D <;> try simp only [yL] at hc)) | refine zA ?_ | refine zB ?_ | refine zF ?_)
      generalize H13.put a12 (.cells (rlC lo) 0 true) = HF at *
  case' inr.inr.inr.inr.inl =>
    rw [e] at hq9
    repeat' (first | (exfalso; omega) | refine zn ?_ | refine zK rfl ?_ | refine zP rfl ?_ | ((first | refine zm ?_ | skip); intro _; intros; simp (disch := first | exact zd | fail) only [↓yS, yT, gresults, gone, ↓reduceIte, Nat.reduceEqDiff, Nat.reduceAdd, Nat.reduceMul, reduceCtorEq, Int.reduceToNat, g8, f1, f5, f7, f9, f12, f15, hsl.len, hsl.ia, hrow, hst, hq9]; first | (rename_i K k; (first | refine yC (k _ _ ?_) | refine zg (k _ ?_)); clear k K) | (rename_i A B C D a b c d; (first | refine zx (a ?_) | refine zy (b ?_) | refine zz (fun hc => c ?_) (fun hc => d ?_) | refine zv (b ?_) | refine zw (a ?_)) <;> clear a b c d A B C D <;> try simp only [yL] at hc)) | refine zA ?_ | refine zB ?_ | refine zF ?_)
    generalize ((HX.add (some (.cells [.int .u8 0, .int .i64 0, .slice none 0 0] 0 true))).put HX.len (.cells [.int .u8 L[n]!.t, .int .i64 L[n]!.n, L[n]!.v] 0 true)) = HN at *
    have hPn := hP4
    have hwN := hPn.same.wf
    refine Gw_s fun K' hK' => G1_call (by simp only [gtarget, ↓GArg.ev, ↓evs, ↓Tr.get_set, Nat.reduceEqDiff, if_true, if_false, ↓reduceIte, Option.map_some, f1, f5, f7, f9, f12, f15]; rfl) (jopen_ok hwN hPn.jat.mem) fun r10 H10 hq => hK' _ _ ?_
    unfold JOpenOut at hq
    rcases hoff : m.off with _ | _
    case' true =>
      rw [if_pos hoff] at hq
      obtain ⟨rfl, hS10⟩ := hq
      have hP10 := hPn.later hS10
      have v1 := hP10.rds.1
      repeat' (first | (exfalso; omega) | refine zn ?_ | refine zK rfl ?_ | refine zP rfl ?_ | ((first | refine zm ?_ | skip); intro _; intros; simp (disch := first | exact zd | fail) only [↓yS, yT, gresults, gone, ↓reduceIte, Nat.reduceEqDiff, Nat.reduceAdd, Nat.reduceMul, reduceCtorEq, Int.reduceToNat, g8, f1, f5, f7, f9, f12, f15, v1]; first | (rename_i K k; (first | refine yC (k _ _ ?_) | refine zg (k _ ?_)); clear k K) | (rename_i A B C D a b c d; (first | refine zx (a ?_) | refine zy (b ?_) | refine zz (fun hc => c ?_) (fun hc => d ?_) | refine zv (b ?_) | refine zw (a ?_)) <;> clear a b c d A B C D <;> try simp only [yL] at hc)) | refine zA ?_ | refine zB ?_ | refine zF ?_)
      refine Gw_s fun K' hK' => G1_call (by simp only [gtarget, ↓GArg.ev, ↓evs, ↓Tr.get_set, Nat.reduceEqDiff, if_true, if_false, ↓reduceIte, Option.map_some, f1, f5, f7, f9, f12, f15]; rfl) (ropenJ_ok hP10.same.wf hP10.rm) fun r11 H11 hq => hK' _ _ ?_
      unfold ROpenOut at hq
      rw [hPn.rl.off, if_pos hoff] at hq
      obtain ⟨rfl, hS11⟩ := hq
      have hw11 := hS11.wf
      have hlim11 := hw11.1
      have g9 : gsetn [.int .i64 0, .int .i64 0, .int .i64 0, .int .u64 0, .bool false, .bool false] 0 6 rl0 = some [.int .i64 0, .int .i64 0, .int .i64 0, .int .u64 0, .bool false, .bool false] := gsetn_all rfl rfl rfl
      have hS12 := (Same.refl hw11).new (.cells [.int .i64 0, .int .i64 0, .int .i64 0, .int .u64 0, .bool false, .bool false] 0 true) (.cells [.int .i64 0, .int .i64 0, .int .i64 0, .int .u64 0, .bool false, .bool false] 0 true)
      repeat' (first | (exfalso; omega) | refine zn ?_ | refine zK rfl ?_ | refine zP rfl ?_ | ((first | refine zm ?_ | skip); intro _; intros; simp (disch := first | exact zd | fail) only [↓yS, yT, gresults, gone, ↓reduceIte, Nat.reduceEqDiff, Nat.reduceAdd, Nat.reduceMul, reduceCtorEq, Int.reduceToNat, g8, f1, f5, f7, f9, f12, f15, g9]; first | (rename_i K k; (first | refine yC (k _ _ ?_) | refine zg (k _ ?_)); clear k K) | (rename_i A B C D a b c d; (first | refine zx (a ?_) | refine zy (b ?_) | refine zz (fun hc => c ?_) (fun hc => d ?_) | refine zv (b ?_) | refine zw (a ?_)) <;> clear a b c d A B C D <;> try simp only [yL] at hc)) | refine zA ?_ | refine zB ?_ | refine zF ?_)
      generalize ((H11.add (some (.cells [.int .i64 0, .int .i64 0, .int .i64 0, .int .u64 0, .bool false, .bool false] 0 true))).put H11.len (.cells [.int .i64 0, .int .i64 0, .int .i64 0, .int .u64 0, .bool false, .bool false] 0 true)) = HF at *
      have hPf := hP10.later (hS11.trans hS12)
      intro K' hK'; refine G1_call (by simp only [gtarget, ↓GArg.ev, ↓evs, ↓Tr.get_set, Nat.reduceEqDiff, if_true, if_false, ↓reduceIte, Option.map_some, f1, f5, f7, f9, f12, f15]; rfl) (same_ok (A := []) (B := []) ⟨(OS.nil (s := 3) (u := 3) (Same.refl hPf.same.wf)).rd, by simp⟩ ⟨(OS.nil (s := 3) (u := 3) (Same.refl hPf.same.wf)).rd, by simp⟩ (by decide)) fun r13 H13 hq => hK' _ _ ?_
      rw [sameR_true rfl] at hq
      obtain ⟨rfl, hh⟩ := hq
      have hh := hh.symm
      subst hh
      have w1 : gbin .eql (some EqK.ptr) (.pointer none) (.pointer none) = some (.bool true) := rfl
      have w2 : gbin .neq (some EqK.bool) (.bool true) (.bool true) = some (.bool false) := rfl
      have w3 : ∀ e, gbin .neq e (.int .i64 21) (.int .i64 0) = some (.bool true) := fun e => by rw [gb_neq']; rfl
      have w4 : ∀ e, gbin .neq e (.int .i64 19) (.int .i64 0) = some (.bool true) := fun e => by rw [gb_neq']; rfl
      have w5 : ∀ e, gbin .neq e (.int .i64 0) (.int .i64 0) = some (.bool false) := fun e => by rw [gb_neq']; rfl
      repeat' (first | (exfalso; omega) | refine zn ?_ | refine zK rfl ?_ | refine zP rfl ?_ | ((first | refine zm ?_ | skip); intro _; intros; simp (disch := first | exact zd | fail) only [↓yS, yT, gresults, gone, ↓reduceIte, Nat.reduceEqDiff, Nat.reduceAdd, Nat.reduceMul, reduceCtorEq, Int.reduceToNat, g8, f1, f5, f7, f9, f12, f15, w1, w2, w3, w4, w5]; first | (rename_i K k; (first | refine yC (k _ _ ?_) | refine zg (k _ ?_)); clear k K) | (rename_i A B C D a b c d; (first | refine zx (a ?_) | refine zy (b ?_) | refine zz (fun hc => c ?_) (fun hc => d ?_) | refine zv (b ?_) | refine zw (a ?_)) <;> clear a b c d A B C D <;> try simp only [yL] at hc)) | refine zA ?_ | refine zB ?_ | refine zF ?_)
    case' false =>
      rw [if_neg (by rw [hoff]; decide)] at hq
      rcases hop : openJ m.data with _ | ⟨lo, rs⟩
    case' false.none =>
      rw [hop] at hq
      dsimp only at hq
      obtain ⟨rfl, hS10⟩ := hq
      have hP10 := hPn.later hS10
      have v1 := hP10.rds.1
      repeat' (first | (exfalso; omega) | refine zn ?_ | refine zK rfl ?_ | refine zP rfl ?_ | ((first | refine zm ?_ | skip); intro _; intros; simp (disch := first | exact zd | fail) only [↓yS, yT, gresults, gone, ↓reduceIte, Nat.reduceEqDiff, Nat.reduceAdd, Nat.reduceMul, reduceCtorEq, Int.reduceToNat, g8, f1, f5, f7, f9, f12, f15, v1]; first | (rename_i K k; (first | refine yC (k _ _ ?_) | refine zg (k _ ?_)); clear k K) | (rename_i A B C D a b c d; (first | refine zx (a ?_) | refine zy (b ?_) | refine zz (fun hc => c ?_) (fun hc => d ?_) | refine zv (b ?_) | refine zw (a ?_)) <;> clear a b c d A B C D <;> try simp only [yL] at hc)) | refine zA ?_ | refine zB ?_ | refine zF ?_)
      refine Gw_s fun K' hK' => G1_call (by simp only [gtarget, ↓GArg.ev, ↓evs, ↓Tr.get_set, Nat.reduceEqDiff, if_true, if_false, ↓reduceIte, Option.map_some, f1, f5, f7, f9, f12, f15]; rfl) (ropenJ_ok hP10.same.wf hP10.rm) fun r11 H11 hq => hK' _ _ ?_
      unfold ROpenOut at hq
      rw [hPn.rl.off, if_neg (by rw [hoff]; decide), hPn.rl.data, hop] at hq
      dsimp only at hq
      obtain ⟨rfl, hS11⟩ := hq
      have hw11 := hS11.wf
      have hlim11 := hw11.1
      have g9 : gsetn [.int .i64 0, .int .i64 0, .int .i64 0, .int .u64 0, .bool false, .bool false] 0 6 rl0 = some [.int .i64 0, .int .i64 0, .int .i64 0, .int .u64 0, .bool false, .bool false] := gsetn_all rfl rfl rfl
      have hS12 := (Same.refl hw11).new (.cells [.int .i64 0, .int .i64 0, .int .i64 0, .int .u64 0, .bool false, .bool false] 0 true) (.cells [.int .i64 0, .int .i64 0, .int .i64 0, .int .u64 0, .bool false, .bool false] 0 true)
      repeat' (first | (exfalso; omega) | refine zn ?_ | refine zK rfl ?_ | refine zP rfl ?_ | ((first | refine zm ?_ | skip); intro _; intros; simp (disch := first | exact zd | fail) only [↓yS, yT, gresults, gone, ↓reduceIte, Nat.reduceEqDiff, Nat.reduceAdd, Nat.reduceMul, reduceCtorEq, Int.reduceToNat, g8, f1, f5, f7, f9, f12, f15, g9]; first | (rename_i K k; (first | refine yC (k _ _ ?_) | refine zg (k _ ?_)); clear k K) | (rename_i A B C D a b c d; (first | refine zx (a ?_) | refine zy (b ?_) | refine zz (fun hc => c ?_) (fun hc => d ?_) | refine zv (b ?_) | refine zw (a ?_)) <;> clear a b c d A B C D <;> try simp only [yL] at hc)) | refine zA ?_ | refine zB ?_ | refine zF ?_)
      generalize ((H11.add (some (.cells [.int .i64 0, .int .i64 0, .int .i64 0, .int .u64 0, .bool false, .bool false] 0 true))).put H11.len (.cells [.int .i64 0, .int .i64 0, .int .i64 0, .int .u64 0, .bool false, .bool false] 0 true)) = HF at *
      have hPf := hP10.later (hS11.trans hS12)
      intro K' hK'; refine G1_call (by simp only [gtarget, ↓GArg.ev, ↓evs, ↓Tr.get_set, Nat.reduceEqDiff, if_true, if_false, ↓reduceIte, Option.map_some, f1, f5, f7, f9, f12, f15]; rfl) (same_ok (A := []) (B := []) ⟨(OS.nil (s := 3) (u := 3) (Same.refl hPf.same.wf)).rd, by simp⟩ ⟨(OS.nil (s := 3) (u := 3) (Same.refl hPf.same.wf)).rd, by simp⟩ (by decide)) fun r13 H13 hq => hK' _ _ ?_
      rw [sameR_true rfl] at hq
      obtain ⟨rfl, hh⟩ := hq
      have hh := hh.symm
      subst hh
      have w1 : gbin .eql (some EqK.ptr) (.pointer none) (.pointer none) = some (.bool true) := rfl
      have w2 : gbin .neq (some EqK.bool) (.bool true) (.bool true) = some (.bool false) := rfl
      have w3 : ∀ e, gbin .neq e (.int .i64 21) (.int .i64 0) = some (.bool true) := fun e => by rw [gb_neq']; rfl
      have w4 : ∀ e, gbin .neq e (.int .i64 19) (.int .i64 0) = some (.bool true) := fun e => by rw [gb_neq']; rfl
      have w5 : ∀ e, gbin .neq e (.int .i64 0) (.int .i64 0) = some (.bool false) := fun e => by rw [gb_neq']; rfl
      repeat' (first | (exfalso; omega) | refine zn ?_ | refine zK rfl ?_ | refine zP rfl ?_ | ((first | refine zm ?_ | skip); intro _; intros; simp (disch := first | exact zd | fail) only [↓yS, yT, gresults, gone, ↓reduceIte, Nat.reduceEqDiff, Nat.reduceAdd, Nat.reduceMul, reduceCtorEq, Int.reduceToNat, g8, f1, f5, f7, f9, f12, f15, w1, w2, w3, w4, w5]; first | (rename_i K k; (first | refine yC (k _ _ ?_) | refine zg (k _ ?_)); clear k K) | (rename_i A B C D a b c d; (first | refine zx (a ?_) | refine zy (b ?_) | refine zz (fun hc => c ?_) (fun hc => d ?_) | refine zv (b ?_) | refine zw (a ?_)) <;> clear a b c d A B C D <;> try simp only [yL] at hc)) | refine zA ?_ | refine zB ?_ | refine zF ?_)
    case' false.some =>
      rw [hop] at hq
      dsimp only at hq
      obtain ⟨k2, v2, L2, rfl, hk2, hk2m, hT2, hL2⟩ := hq
      have hS10 := hT2.own.same
      have hP10 := hPn.later hS10
      have v1 := hP10.rds.1
      repeat' (first | (exfalso; omega) | refine zn ?_ | refine zK rfl ?_ | refine zP rfl ?_ | ((first | refine zm ?_ | skip); intro _; intros; simp (disch := first | exact zd | fail) only [↓yS, yT, gresults, gone, ↓reduceIte, Nat.reduceEqDiff, Nat.reduceAdd, Nat.reduceMul, reduceCtorEq, Int.reduceToNat, g8, f1, f5, f7, f9, f12, f15, v1]; first | (rename_i K k; (first | refine yC (k _ _ ?_) | refine zg (k _ ?_)); clear k K) | (rename_i A B C D a b c d; (first | refine zx (a ?_) | refine zy (b ?_) | refine zz (fun hc => c ?_) (fun hc => d ?_) | refine zv (b ?_) | refine zw (a ?_)) <;> clear a b c d A B C D <;> try simp only [yL] at hc)) | refine zA ?_ | refine zB ?_ | refine zF ?_)
      refine Gw_s fun K' hK' => G1_call (by simp only [gtarget, ↓GArg.ev, ↓evs, ↓Tr.get_set, Nat.reduceEqDiff, if_true, if_false, ↓reduceIte, Option.map_some, f1, f5, f7, f9, f12, f15]; rfl) (ropenJ_ok hP10.same.wf hP10.rm) fun r11 H11 hq => hK' _ _ ?_
      unfold ROpenOut at hq
      rw [hPn.rl.off, if_neg (by rw [hoff]; decide), hPn.rl.data, hop] at hq
      dsimp only at hq
      obtain ⟨v3, L3, rfl, hQ3, hL3⟩ := hq
      have hS11 := hQ3.own.same
      have hw11 := hS11.wf
      have hlim11 := hw11.1
      have g9 : gsetn [.int .i64 0, .int .i64 0, .int .i64 0, .int .u64 0, .bool false, .bool false] 0 6 (rlV lo) = some (rlC lo) := rl_gset rfl
      have hS12 := (Same.refl hw11).new (.cells [.int .i64 0, .int .i64 0, .int .i64 0, .int .u64 0, .bool false, .bool false] 0 true) (.cells (rlC lo) 0 true)
      have g10 : ((H11.add (some (.cells [.int .i64 0, .int .i64 0, .int .i64 0, .int .u64 0, .bool false, .bool false] 0 true))).put H11.len (.cells (rlC lo) 0 true)).rdn H11.len 0 6 = some (rlV lo) := rl_put
      repeat' (first | (exfalso; omega) | refine zn ?_ | refine zK rfl ?_ | refine zP rfl ?_ | ((first | refine zm ?_ | skip); intro _; intros; simp (disch := first | exact zd | fail) only [↓yS, yT, gresults, gone, ↓reduceIte, Nat.reduceEqDiff, Nat.reduceAdd, Nat.reduceMul, reduceCtorEq, Int.reduceToNat, g8, f1, f5, f7, f9, f12, f15, g9]; first | (rename_i K k; (first | refine yC (k _ _ ?_) | refine zg (k _ ?_)); clear k K) | (rename_i A B C D a b c d; (first | refine zx (a ?_) | refine zy (b ?_) | refine zz (fun hc => c ?_) (fun hc => d ?_) | refine zv (b ?_) | refine zw (a ?_)) <;> clear a b c d A B C D <;> try simp only [yL] at hc)) | refine zA ?_ | refine zB ?_ | refine zF ?_)
      generalize ((H11.add (some (.cells [.int .i64 0, .int .i64 0, .int .i64 0, .int .u64 0, .bool false, .bool false] 0 true))).put H11.len (.cells (rlC lo) 0 true)) = H12 at *
      obtain ⟨o1, o2⟩ := openJ_bd hop hPn.jat.mem.big hPn.jat.mem.low
      have hR2 := ((hT2.later hS11).later hS12).r
      have hR3 := (hQ3.later hS12).r
      intro K' hK'; refine G1_call (by simp only [gtarget, ↓GArg.ev, ↓evs, ↓Tr.get_set, Nat.reduceEqDiff, if_true, if_false, ↓reduceIte, Option.map_some, f1, f5, f7, f9, f12, f15]; rfl) (same_ok hR2 hR3 (by rw [← hL2, List.length_map] at o2; exact o2)) fun r13 H13 hq => hK' _ _ ?_
      rw [sameR_true (hL2.trans hL3.symm)] at hq
      obtain ⟨rfl, rfl⟩ := hq
      have hm2 := mine_lt hS10.wf hk2m
      have hk12 : H13.mine k2 = some (logCells (ptr i) lo, 0) := by rw [hS12.mine (by have := hS11.len; omega), hS11.mine hm2]; exact hk2m
      obtain ⟨s1, s2, hPf⟩ := hPn.open_ hoff ((hS10.trans hS11).trans hS12) hk2 hk12 o1
      have w1 : gbin .eql (some EqK.ptr) (ptr k2) (.pointer none) = some (.bool false) := rfl
      have w2 : gbin .neq (some EqK.bool) (.bool false) (.bool false) = some (.bool false) := rfl
      have w3 : ∀ e, gbin .neq e (.int .i64 21) (.int .i64 0) = some (.bool true) := fun e => by rw [gb_neq']; rfl
      have w4 : ∀ e, gbin .neq e (.int .i64 19) (.int .i64 0) = some (.bool true) := fun e => by rw [gb_neq']; rfl
      have w5 : ∀ e, gbin .neq e (.int .i64 0) (.int .i64 0) = some (.bool false) := fun e => by rw [gb_neq']; rfl
      repeat' (first | (exfalso; omega) | refine zn ?_ | refine zK rfl ?_ | refine zP rfl ?_ | ((first | refine zm ?_ | skip); intro _; intros; simp (disch := first | exact zd | fail) only [↓yS, yT, gresults, gone, ↓reduceIte, Nat.reduceEqDiff, Nat.reduceAdd, Nat.reduceMul, reduceCtorEq, Int.reduceToNat, g8, f1, f5, f7, f9, f12, f15, w1, w2, w3, w4, w5]; first | (rename_i K k; (first | refine yC (k _ _ ?_) | refine zg (k _ ?_)); clear k K) | (rename_i A B C D a b c d; (first | refine zx (a ?_) | refine zy (b ?_) | refine zz (fun hc => c ?_) (fun hc => d ?_) | refine zv (b ?_) | refine zw (a ?_)) <;> clear a b c d A B C D <;> try simp only [yL] at hc)) | refine zA ?_ | refine zB ?_ | refine zF ?_)
      repeat' (first | (exfalso; omega) | refine zn ?_ | refine zK rfl ?_ | refine zP rfl ?_ | ((first | refine zm ?_ | skip); intro _; intros; simp (disch := first | exact zd | fail) only [↓yS, yT, gresults, gone, ↓reduceIte, Nat.reduceEqDiff, Nat.reduceAdd, Nat.reduceMul, reduceCtorEq, Int.reduceToNat, g8, f1, f5, f7, f9, f12, f15, g10, s1, s2]; first | (rename_i K k; (first | refine yC (k _ _ ?_) | refine zg (k _ ?_)); clear k K) | (rename_i A B C D a b c d; (first | refine zx (a ?_) | refine zy (b ?_) | refine zz (fun hc => c ?_) (fun hc => d ?_) | refine zv (b ?_) | refine zw (a ?_)) <;> clear a b c d A B C D <;> try simp only [yL] at hc)) | refine zA ?_ | refine zB ?_ | refine zF ?_)
      generalize H13.put a12 (.cells (rlC lo) 0 true) = HF at *
  all_goals
    have hwF := hPf.same.wf
    refine Gw_s fun K' hK' => G1_callM (by simp only [gtarget, ↓GArg.ev, ↓evs, ↓Tr.get_set, Nat.reduceEqDiff, if_true, if_false, ↓reduceIte, Option.map_some, f1, f5, f7, f9, f12, f15]; rfl) (bytes_upP hwF hPf.jat.mem) fun rb Hb hq => hK' _ _ ?_
    have hOb := hq.down hwF
    have hPg := hPf.later hOb.same
    generalize Hb.down HF.lim = Hg at *
    have hsb := hOb.rb.str
    have hsd := hPg.strs
    have hne := hPg.strne
    obtain ⟨nb1, nb2⟩ := hPg.bne
    obtain ⟨u1, u2, u3, u4, u5, u6⟩ := hPg.rds
    rw [hPg.rl.off] at u4
    repeat' (first | (exfalso; omega) | refine zn ?_ | refine zK rfl ?_ | refine zP rfl ?_ | ((first | refine zm ?_ | skip); intro _; intros; simp (disch := first | exact zd | fail) only [↓yS, yT, gresults, gone, ↓reduceIte, Nat.reduceEqDiff, Nat.reduceAdd, Nat.reduceMul, reduceCtorEq, Int.reduceToNat, g8, f1, f5, f7, f9, f12, f15, hsb, hsd, u3, hne]; first | (rename_i K k; (first | refine yC (k _ _ ?_) | refine zg (k _ ?_)); clear k K) | (rename_i A B C D a b c d; (first | refine zx (a ?_) | refine zy (b ?_) | refine zz (fun hc => c ?_) (fun hc => d ?_) | refine zv (b ?_) | refine zw (a ?_)) <;> clear a b c d A B C D <;> try simp only [yL] at hc)) | refine zA ?_ | refine zB ?_ | refine zF ?_)
    intro K' hK'; refine G1_callM (by simp only [gtarget, ↓GArg.ev, ↓evs, ↓Tr.get_set, Nat.reduceEqDiff, if_true, if_false, ↓reduceIte, Option.map_some, f1, f5, f7, f9, f12, f15]; rfl) (off_up hPg.jat.mem) fun r Hr hq => hK' _ _ ?_
    obtain ⟨rfl, rfl⟩ := hq
    rw [updown]
    repeat' (first | (exfalso; omega) | refine zn ?_ | refine zK rfl ?_ | refine zP rfl ?_ | ((first | refine zm ?_ | skip); intro _; intros; simp (disch := first | exact zd | fail) only [↓yS, yT, gresults, gone, ↓reduceIte, Nat.reduceEqDiff, Nat.reduceAdd, Nat.reduceMul, reduceCtorEq, Int.reduceToNat, g8, f1, f5, f7, f9, f12, f15, u4, nb1]; first | (rename_i K k; (first | refine yC (k _ _ ?_) | refine zg (k _ ?_)); clear k K) | (rename_i A B C D a b c d; (first | refine zx (a ?_) | refine zy (b ?_) | refine zz (fun hc => c ?_) (fun hc => d ?_) | refine zv (b ?_) | refine zw (a ?_)) <;> clear a b c d A B C D <;> try simp only [yL] at hc)) | refine zA ?_ | refine zB ?_ | refine zF ?_)
    intro K' hK'; refine G1_callM (by simp only [gtarget, ↓GArg.ev, ↓evs, ↓Tr.get_set, Nat.reduceEqDiff, if_true, if_false, ↓reduceIte, Option.map_some, f1, f5, f7, f9, f12, f15]; rfl) (next_up hPg.jat.log) fun r Hr hq => hK' _ _ ?_
    obtain ⟨rfl, rfl⟩ := hq
    rw [updown]
    repeat' (first | (exfalso; omega) | refine zn ?_ | refine zK rfl ?_ | refine zP rfl ?_ | ((first | refine zm ?_ | skip); intro _; intros; simp (disch := first | exact zd | fail) only [↓yS, yT, gresults, gone, ↓reduceIte, Nat.reduceEqDiff, Nat.reduceAdd, Nat.reduceMul, reduceCtorEq, Int.reduceToNat, g8, f1, f5, f7, f9, f12, f15, u5]; first | (rename_i K k; (first | refine yC (k _ _ ?_) | refine zg (k _ ?_)); clear k K) | (rename_i A B C D a b c d; (first | refine zx (a ?_) | refine zy (b ?_) | refine zz (fun hc => c ?_) (fun hc => d ?_) | refine zv (b ?_) | refine zw (a ?_)) <;> clear a b c d A B C D <;> try simp only [yL] at hc)) | refine zA ?_ | refine zB ?_ | refine zF ?_)
    intro K' hK'; refine G1_callM (by simp only [gtarget, ↓GArg.ev, ↓evs, ↓Tr.get_set, Nat.reduceEqDiff, if_true, if_false, ↓reduceIte, Option.map_some, f1, f5, f7, f9, f12, f15]; rfl) (free_up hPg.jat hPg.bd.fin) fun r Hr hq => hK' _ _ ?_
    obtain ⟨rfl, rfl⟩ := hq
    rw [updown]
    repeat' (first | (exfalso; omega) | refine zn ?_ | refine zK rfl ?_ | refine zP rfl ?_ | ((first | refine zm ?_ | skip); intro _; intros; simp (disch := first | exact zd | fail) only [↓yS, yT, gresults, gone, ↓reduceIte, Nat.reduceEqDiff, Nat.reduceAdd, Nat.reduceMul, reduceCtorEq, Int.reduceToNat, g8, f1, f5, f7, f9, f12, f15, u1, u2]; first | (rename_i K k; (first | refine yC (k _ _ ?_) | refine zg (k _ ?_)); clear k K) | (rename_i A B C D a b c d; (first | refine zx (a ?_) | refine zy (b ?_) | refine zz (fun hc => c ?_) (fun hc => d ?_) | refine zv (b ?_) | refine zw (a ?_)) <;> clear a b c d A B C D <;> try simp only [yL] at hc)) | refine zA ?_ | refine zB ?_ | refine zF ?_)
    intro K' hK'; refine G1_callM (by simp only [gtarget, ↓GArg.ev, ↓evs, ↓Tr.get_set, Nat.reduceEqDiff, if_true, if_false, ↓reduceIte, Option.map_some, f1, f5, f7, f9, f12, f15]; rfl) (rfree_ok (wf_up hPg.same.wf) hPg.rb.flat hPg.rm.big hPg.bd.fin) fun r Hr hq => hK' _ _ ?_
    obtain ⟨rfl, hSr⟩ := hq
    rw [free_rel hPg.rl]
    have hPr := hPg.later (hSr.down hPg.same.wf)
    generalize Hr.down Hg.lim = Hs at *
    repeat' (first | (exfalso; omega) | refine zn ?_ | refine zK rfl ?_ | refine zP rfl ?_ | ((first | refine zm ?_ | skip); intro _; intros; simp (disch := first | exact zd | fail) only [↓yS, yT, gresults, gone, ↓reduceIte, Nat.reduceEqDiff, Nat.reduceAdd, Nat.reduceMul, reduceCtorEq, Int.reduceToNat, g8, f1, f5, f7, f9, f12, f15]; first | (rename_i K k; (first | refine yC (k _ _ ?_) | refine zg (k _ ?_)); clear k K) | (rename_i A B C D a b c d; (first | refine zx (a ?_) | refine zy (b ?_) | refine zz (fun hc => c ?_) (fun hc => d ?_) | refine zv (b ?_) | refine zw (a ?_)) <;> clear a b c d A B C D <;> try simp only [yL] at hc)) | refine zA ?_ | refine zB ?_ | refine zF ?_)
    intro K' hK'; refine G1_callM (by simp only [gtarget, ↓GArg.ev, ↓evs, ↓Tr.get_set, Nat.reduceEqDiff, if_true, if_false, ↓reduceIte, Option.map_some, f1, f5, f7, f9, f12, f15]; rfl) (damaged_up hPr.jat.log) fun r Hr2 hq => hK' _ _ ?_
    obtain ⟨rfl, rfl⟩ := hq
    rw [updown]
    have u7 := hPr.rds.2.2.2.2.2
    repeat' (first | (exfalso; omega) | refine zn ?_ | refine zK rfl ?_ | refine zP rfl ?_ | ((first | refine zm ?_ | skip); intro _; intros; simp (disch := first | exact zd | fail) only [↓yS, yT, gresults, gone, ↓reduceIte, Nat.reduceEqDiff, Nat.reduceAdd, Nat.reduceMul, reduceCtorEq, Int.reduceToNat, g8, f1, f5, f7, f9, f12, f15, u7, nb2]; first | (rename_i K k; (first | refine yC (k _ _ ?_) | refine zg (k _ ?_)); clear k K) | (rename_i A B C D a b c d; (first | refine zx (a ?_) | refine zy (b ?_) | refine zz (fun hc => c ?_) (fun hc => d ?_) | refine zv (b ?_) | refine zw (a ?_)) <;> clear a b c d A B C D <;> try simp only [yL] at hc)) | refine zA ?_ | refine zB ?_ | refine zF ?_)
    refine hJ _ _ ⟨20 - (n + 1), by omega, n + 1, _, _, _, _, _, rfl, ?_, ?_, ?_, ?_, ?_, ?_, hPr⟩
    all_goals (simp only [↓yG, Nat.reduceEqDiff, ↓reduceIte, Int.natCast_add, Int.cast_ofNat_Int, Int.natCast_zero, true_and, and_true, Option.some.injEq, Value.int.injEq, f1, f5, f7, f9, f12, f15, ptr])
theorem plays_law {H : GHeap} (hw : H.wf) {gvs : List Value} (h : RdAs H [.int .u8, .sl (.st [.int .u8, .int .i64, .sl (.int .u8)])] gvs) : ∃ v H2, gev G 8 gvs H = some (v, H2) ∧ v = .bool true := by
  obtain ⟨_, _, rfl, h1, _, _, rfl, h2, rfl⟩ := h
  obtain ⟨n, rfl, hn⟩ := h1.int_
  have hn := wf_u8 hn
  obtain ⟨z, rfl⟩ : ∃ z : Nat, n = z := ⟨n.toNat, by omega⟩
  obtain ⟨L, k1, k2, k3⟩ := ac_of h2
  exact plays_ok hw k1 k2 k3 (by omega)
end Go.Gh
