/-
  The journal, walked: Compact.
-/
import Derived.Test.YtbficpmoppailaaJnW7
namespace Go.Gh
set_option linter.unusedSimpArgs false
set_option linter.unusedVariables false
set_option maxHeartbeats 4000000
open Go.RowKit
set_option maxRecDepth 4000

set_option maxHeartbeats 4000000 in
theorem compact_ok {H : GHeap} {i j gc k : Nat} {m : JM} {l : JL} (h : JAt H i j gc k m l) (hbk : l.bank < 2) (hgen : l.gen < 18446744073709551616) {v : Value} {p : List UInt8} (hp : RB H v p) (ha : ∀ a ∈ idOf v, ¬ jo i j k a) (hpl : p.length < 4294967296) :
    ∃ r H', gev G 14 [ptr k, v] H = some (r, H') ∧ (r = .tuple #[.int .i64 ((compactJ m l p).2.2.1 : Nat), .int .i64 (compactJ m l p).2.2.2] ∧ JAt H' i j gc k (compactJ m l p).1 (compactJ m l p).2.1 ∧ But (jo i j k) H H') := by
  refine gev_GW (f := 14) rfl fun Post hPost => ?_
  have hw := h.wf
  have hL' : H.mine k = some (logCells (ptr i) l, 0) := h.log
  have hsl := hp.isSl
  have hbig := h.mem.big
  have hsz : m.size = m.data.length / 2 := rfl
  simp only [frameOf, Nat.reduceAdd]
  repeat' (first | refine zn ?_ | refine zK rfl ?_ | refine zP rfl ?_ | ((first | refine zm ?_ | skip); intro _; intros; simp (disch := first | exact zd | fail) only [↓yS, yT, gresults, gone, ↓reduceIte, Nat.reduceEqDiff, Nat.reduceAdd, Nat.reduceMul, reduceCtorEq, Int.reduceToNat, g14, ptr, hsl.len]; first | (rename_i K k; (first | refine yC (k _ _ ?_) | refine zg (k _ ?_)); clear k K) | (rename_i A B C D a b c d; (first | refine zx (a ?_) | refine zy (b ?_) | refine zz (fun hc => c ?_) (fun hc => d ?_) | refine zv (b ?_) | refine zw (a ?_)) <;> clear a b c d A B C D <;> try simp only [yL] at hc)) | refine zA ?_ | refine zB ?_ | refine zF ?_)
  refine Gw_s fun K' hK' => G1_call (by simp only [gtarget, ↓GArg.ev, ↓evs, ↓Tr.get_set, Nat.reduceEqDiff, if_true, if_false, ↓reduceIte, Option.map_some]; rfl) (refused_ok hw h.mem h.log h.ne (o := 13) (by decide) (n := p.length) (by omega)) fun r2 H2 hq => hK' _ _ ?_
  obtain ⟨rfl, hL2, hM2, hB2⟩ := hq
  rcases refB_cases m l 13 p.length with hr | hr | hr | ⟨hr, hr1, hr2, hr3, hr4⟩
  case inr.inr.inr =>
    rw [hr] at hL2 ⊢
    rw [if_neg (by decide)] at hL2
    have hJ2 : JAt H2 i j gc k m l := ⟨hB2.wf, hM2, hL2, h.ne⟩
    have hL2' : H2.mine k = some (logCells (ptr i) l, 0) := hL2
    have hrd2 := fun o => mine_rd (o := o) hL2'
    have hm1 : (1 - l.bank) * m.size ≤ m.data.length ∧ (1 - l.bank) * m.size + m.size ≤ m.data.length := by
      rcases (show l.bank = 0 ∨ l.bank = 1 by omega) with e | e <;> rw [e] <;> omega
    have k0 : ∀ e, gbin .sub e (.int .i64 1) (.int .i64 (l.bank : Int)) = some (.int .i64 ((1 - l.bank : Nat) : Int)) := fun e => by
      rw [gb_sub, wr_i64 (by omega)]
      congr 2; omega
    have k1 : ∀ e, gbin .mul e (.int .i64 ((1 - l.bank : Nat) : Int)) (.int .i64 (m.size : Int)) = some (.int .i64 (((1 - l.bank) * m.size : Nat) : Int)) := fun e => by
      rw [gb_mul, ← Int.natCast_mul, wr_i64 (by omega)]
    have happ : cmpW m l p = [((1 - l.bank) * m.size, 0)] ++ (at_ ((1 - l.bank) * m.size + 1) (sealB (leB 8 (l.gen + 1))) ++ ([((1 - l.bank) * m.size + 13, 0)] ++ ([((1 - l.bank) * m.size + 13 + 17 + p.length, 0)] ++ (at_ ((1 - l.bank) * m.size + 13 + 1) (bodyB l.next p) ++ ([((1 - l.bank) * m.size + 13, 166)] ++ [((1 - l.bank) * m.size, 183)]))))) := rfl
    have happ2 : compactJ m l p = if (wrB m (cmpW m l p)).2 = true then ((wrB m (cmpW m l p)).1, {l with bank := 1 - l.bank, gen := (l.gen + 1) % 18446744073709551616, fin := 30 + p.length, next := l.next + 1, damaged := false}, l.next, 0) else ((wrB m (cmpW m l p)).1, l.broke, 0, 21) := by
      simp only [compactJ, hr]
      rw [if_neg (by decide), if_neg (by decide)]
    rw [happ2] at hPost
    clear happ2
    have hg1 : ∀ e, gbin .add e (.int .u64 (l.gen : Int)) (.int .u64 1) = some (.int .u64 (((l.gen + 1) % 18446744073709551616 : Nat) : Int)) := fun e => by
      rw [gb_add, IntKind.wrap_u64]; congr 2
    have hg2 : leB 8 ((l.gen + 1) % 18446744073709551616) = leB 8 (l.gen + 1) := leB_mod 8 _ _ (by
      rw [show (256 : Nat) ^ 8 = 18446744073709551616 by decide, Nat.mod_mod])
    have hgl : (l.gen + 1) % 18446744073709551616 < 18446744073709551616 := Nat.mod_lt _ (by decide)
    have hob : (1 - l.bank) * m.size + 13 + 17 + p.length < m.data.length := by omega
    generalize hoe : (1 - l.bank) * m.size = q at *
    have k2 : ∀ e, gbin .add e (.int .i64 (q : Int)) (.int .i64 13) = some (.int .i64 ((q + 13 : Nat) : Int)) := fun e => by
      rw [gb_add, wr_i64 (by omega)]; rfl
    generalize ho : q + 13 = o at *
    have k3 : ∀ e, gbin .add e (.int .i64 (o : Int)) (.int .i64 17) = some (.int .i64 ((o + 17 : Nat) : Int)) := fun e => by
      rw [gb_add, wr_i64 (by omega)]; rfl
    have k4 : ∀ e, gbin .add e (.int .i64 ((o + 17 : Nat) : Int)) (.int .i64 (p.length : Int)) = some (.int .i64 ((o + 17 + p.length : Nat) : Int)) := fun e => by
      rw [gb_add, wr_i64 (by omega)]; rfl
    have k5 : ∀ e, gbin .add e (.int .i64 (o : Int)) (.int .i64 1) = some (.int .i64 ((o + 1 : Nat) : Int)) := fun e => by
      rw [gb_add, wr_i64 (by omega)]; rfl
    have k6 : ∀ e, gbin .add e (.int .i64 (q : Int)) (.int .i64 1) = some (.int .i64 ((q + 1 : Nat) : Int)) := fun e => by
      rw [gb_add, wr_i64 (by omega)]; rfl
    repeat' (first | (exfalso; omega) | refine zn ?_ | refine zK rfl ?_ | refine zP rfl ?_ | ((first | refine zm ?_ | skip); intro _; intros; simp (disch := first | exact zd | fail) only [↓yS, yT, gresults, gone, ↓reduceIte, Nat.reduceEqDiff, Nat.reduceAdd, Nat.reduceMul, reduceCtorEq, Int.reduceToNat, g14, ptr, hrd2, logCells, k0]; first | (rename_i K k; (first | refine yC (k _ _ ?_) | refine zg (k _ ?_)); clear k K) | (rename_i A B C D a b c d; (first | refine zx (a ?_) | refine zy (b ?_) | refine zz (fun hc => c ?_) (fun hc => d ?_) | refine zv (b ?_) | refine zw (a ?_)) <;> clear a b c d A B C D <;> try simp only [yL] at hc)) | refine zA ?_ | refine zB ?_ | refine zF ?_)
    refine Gw_s fun K' hK' => G1_call (by simp only [gtarget, ↓GArg.ev, ↓evs, ↓Tr.get_set, Nat.reduceEqDiff, if_true, if_false, ↓reduceIte, Option.map_some, ptr]; rfl) (size_ok hM2) fun r3 H3 hq => hK' _ _ ?_
    obtain ⟨rfl, rfl⟩ := hq
    repeat' (first | (exfalso; omega) | refine zn ?_ | refine zK rfl ?_ | refine zP rfl ?_ | ((first | refine zm ?_ | skip); intro _; intros; simp (disch := first | exact zd | fail) only [↓yS, yT, gresults, gone, ↓reduceIte, Nat.reduceEqDiff, Nat.reduceAdd, Nat.reduceMul, reduceCtorEq, Int.reduceToNat, g14, ptr, hrd2, logCells, k1, k2, hg1]; first | (rename_i K k; (first | refine yC (k _ _ ?_) | refine zg (k _ ?_)); clear k K) | (rename_i A B C D a b c d; (first | refine zx (a ?_) | refine zy (b ?_) | refine zz (fun hc => c ?_) (fun hc => d ?_) | refine zv (b ?_) | refine zw (a ?_)) <;> clear a b c d A B C D <;> try simp only [yL] at hc)) | refine zA ?_ | refine zB ?_ | refine zF ?_)
    refine Gw_s fun K' hK' => G1_call (by simp only [gtarget, ↓GArg.ev, ↓evs, ↓Tr.get_set, Nat.reduceEqDiff, if_true, if_false, ↓reduceIte, Option.map_some, ptr]; rfl) (low_ok hJ2.wf (n := (l.gen + 1) % 18446744073709551616) (k := 8) (by decide) hgl) fun rg Hg hqg => hK' _ _ ?_
    repeat' (first | (exfalso; omega) | refine zn ?_ | refine zK rfl ?_ | refine zP rfl ?_ | ((first | refine zm ?_ | skip); intro _; intros; simp (disch := first | exact zd | fail) only [↓yS, yT, gresults, gone, ↓reduceIte, Nat.reduceEqDiff, Nat.reduceAdd, Nat.reduceMul, reduceCtorEq, Int.reduceToNat, g14, ptr]; first | (rename_i K k; (first | refine yC (k _ _ ?_) | refine zg (k _ ?_)); clear k K) | (rename_i A B C D a b c d; (first | refine zx (a ?_) | refine zy (b ?_) | refine zz (fun hc => c ?_) (fun hc => d ?_) | refine zv (b ?_) | refine zw (a ?_)) <;> clear a b c d A B C D <;> try simp only [yL] at hc)) | refine zA ?_ | refine zB ?_ | refine zF ?_)
    refine Gw_s fun K' hK' => G1_call (by simp only [gtarget, ↓GArg.ev, ↓evs, ↓Tr.get_set, Nat.reduceEqDiff, if_true, if_false, ↓reduceIte, Option.map_some, ptr]; rfl) (seal_ok hqg.same.wf hqg.rb (by rw [leB_length]; decide)) fun rs Hs hqs => hK' _ _ ?_
    rw [hg2] at hqs
    have hOs := hqs.weaken hqg.same
    have hJs := hJ2.later hOs.same
    have hBs : But (jo i j k) H Hs := (hB2.mono fun z hz => .inr (.inr hz)).trans (But.of hOs.same)
    have hsl12 : (sealB (leB 8 (l.gen + 1))).length = 12 := by rw [sealB_length, leB_length]
    have hrsy := hJ2.young hOs.ids
    repeat' (first | (exfalso; omega) | refine zn ?_ | refine zK rfl ?_ | refine zP rfl ?_ | ((first | refine zm ?_ | skip); intro _; intros; simp (disch := first | exact zd | fail) only [↓yS, yT, gresults, gone, ↓reduceIte, Nat.reduceEqDiff, Nat.reduceAdd, Nat.reduceMul, reduceCtorEq, Int.reduceToNat, g14, ptr, fill1z]; first | (rename_i K k; (first | refine yC (k _ _ ?_) | refine zg (k _ ?_)); clear k K) | (rename_i A B C D a b c d; (first | refine zx (a ?_) | refine zy (b ?_) | refine zz (fun hc => c ?_) (fun hc => d ?_) | refine zv (b ?_) | refine zw (a ?_)) <;> clear a b c d A B C D <;> try simp only [yL] at hc)) | refine zA ?_ | refine zB ?_ | refine zF ?_)
    refine Gw_s fun K' hK' => G1_call (by simp only [gtarget, ↓GArg.ev, ↓evs, ↓Tr.get_set, Nat.reduceEqDiff, if_true, if_false, ↓reduceIte, Option.map_some, ptr]; rfl) (hJs.write1 0 (o := q) (by omega)) fun r4 H4 hq4 => hK' _ _ ?_
    obtain ⟨rfl, hJ4, hB4⟩ := hq4
    have hBs4 := hB4.mono (T := jo i j k) mo_jo
    have hB24 : But (jo i j k) H H4 := hBs.trans hBs4
    have hfail : ∀ r1 : JM × Bool, wrB m (cmpW m l p) = r1 → r1.2 = false → ∀ H5, JAt H5 i j gc k r1.1 l → But (jo i j k) H H5 → Post (.tuple #[.int .i64 0, .int .i64 21]) (H5.put k (.cells (logCells (ptr i) l.broke) 0 true)) := fun r1 e1 e2 H5 hJ hB => hPost _ _ (by
      rw [e1, if_neg (by rw [e2]; decide)]
      exact ⟨rfl, (hJ.broke l.broke).1, hB.trans (hJ.broke l.broke).2⟩)
    have hok : ∀ r1 : JM × Bool, wrB m (cmpW m l p) = r1 → r1.2 = true → ∀ H5, JAt H5 i j gc k r1.1 {l with bank := 1 - l.bank, gen := (l.gen + 1) % 18446744073709551616, fin := 30 + p.length, next := l.next + 1, damaged := false} → But (jo i j k) H H5 → Post (.tuple #[.int .i64 (l.next : Int), .int .i64 0]) H5 := fun r1 e1 e2 H5 hJ hB => hPost _ _ (by
      rw [e1, if_pos e2]
      exact ⟨rfl, hJ, hB⟩)
    clear hPost
    rw [happ] at hfail hok
    have hL4 : H4.mine k = some (logCells (ptr i) l, 0) := hJ4.log
    repeat' (first | (exfalso; omega) | refine zn ?_ | refine zK rfl ?_ | refine zP rfl ?_ | ((first | refine zm ?_ | skip); intro _; intros; simp (disch := first | exact zd | fail) only [↓yS, yT, gresults, gone, ↓reduceIte, Nat.reduceEqDiff, Nat.reduceAdd, Nat.reduceMul, reduceCtorEq, Int.reduceToNat, g14, ptr, k6, hL4, logCells]; first | (rename_i K k; (first | refine yC (k _ _ ?_) | refine zg (k _ ?_)); clear k K) | (rename_i A B C D a b c d; (first | refine zx (a ?_) | refine zy (b ?_) | refine zz (fun hc => c ?_) (fun hc => d ?_) | refine zv (b ?_) | refine zw (a ?_)) <;> clear a b c d A B C D <;> try simp only [yL] at hc)) | refine zA ?_ | refine zB ?_ | refine zF ?_)
    case refine_1 => exact hfail _ (wrB_no hc) hc _ hJ4 hB24
    case refine_2 =>
    rw [wrB_yes hc] at hfail hok
    have hl4 := wrB_length [(q, 0)] m
    generalize (wrB m [(q, 0)]).1 = m4 at *
    clear hc
    intro K' hK'; refine G1_call (by simp only [gtarget, ↓GArg.ev, ↓evs, ↓Tr.get_set, Nat.reduceEqDiff, if_true, if_false, ↓reduceIte, Option.map_some, ptr]; rfl) (hJ4.write ((hOs.rb).but hOs.same.wf hBs4 hrsy) (o := q + 1) ?_ (by omega)) fun ra Ha hqa => hK' _ _ ?_
    case refine_1 => exact fun a ha2 h2 => hrsy a ha2 (mo_jo a h2)
    case refine_2 =>
    obtain ⟨rfl, hJa, hBa⟩ := hqa
    have hB2a := hB24.trans (hBa.mono mo_jo)
    have hLa : Ha.mine k = some (logCells (ptr i) l, 0) := hJa.log
    repeat' (first | (exfalso; omega) | refine zn ?_ | refine zK rfl ?_ | refine zP rfl ?_ | ((first | refine zm ?_ | skip); intro _; intros; simp (disch := first | exact zd | fail) only [↓yS, yT, gresults, gone, ↓reduceIte, Nat.reduceEqDiff, Nat.reduceAdd, Nat.reduceMul, reduceCtorEq, Int.reduceToNat, g14, ptr, fill1z, hLa, logCells]; first | (rename_i K k; (first | refine yC (k _ _ ?_) | refine zg (k _ ?_)); clear k K) | (rename_i A B C D a b c d; (first | refine zx (a ?_) | refine zy (b ?_) | refine zz (fun hc => c ?_) (fun hc => d ?_) | refine zv (b ?_) | refine zw (a ?_)) <;> clear a b c d A B C D <;> try simp only [yL] at hc)) | refine zA ?_ | refine zB ?_ | refine zF ?_)
    case refine_1 => exact hfail _ (wrB_no hc) hc _ hJa hB2a
    case refine_2 =>
    rw [wrB_yes hc] at hfail hok
    have hla := wrB_length (at_ (q + 1) (sealB (leB 8 (l.gen + 1)))) m4
    generalize (wrB m4 (at_ (q + 1) (sealB (leB 8 (l.gen + 1))))).1 = ma at *
    clear hc
    intro K' hK'; refine G1_call (by simp only [gtarget, ↓GArg.ev, ↓evs, ↓Tr.get_set, Nat.reduceEqDiff, if_true, if_false, ↓reduceIte, Option.map_some, ptr]; rfl) (hJa.write1 0 (o := o) (by omega)) fun rb Hb hqb => hK' _ _ ?_
    obtain ⟨rfl, hJb, hBb⟩ := hqb
    have hB2b := hB2a.trans (hBb.mono mo_jo)
    have hLb : Hb.mine k = some (logCells (ptr i) l, 0) := hJb.log
    repeat' (first | (exfalso; omega) | refine zn ?_ | refine zK rfl ?_ | refine zP rfl ?_ | ((first | refine zm ?_ | skip); intro _; intros; simp (disch := first | exact zd | fail) only [↓yS, yT, gresults, gone, ↓reduceIte, Nat.reduceEqDiff, Nat.reduceAdd, Nat.reduceMul, reduceCtorEq, Int.reduceToNat, g14, ptr, k3, k4, hsl.len, fill1z, hLb, logCells]; first | (rename_i K k; (first | refine yC (k _ _ ?_) | refine zg (k _ ?_)); clear k K) | (rename_i A B C D a b c d; (first | refine zx (a ?_) | refine zy (b ?_) | refine zz (fun hc => c ?_) (fun hc => d ?_) | refine zv (b ?_) | refine zw (a ?_)) <;> clear a b c d A B C D <;> try simp only [yL] at hc)) | refine zA ?_ | refine zB ?_ | refine zF ?_)
    case refine_1 => exact hfail _ (wrB_no hc) hc _ hJb hB2b
    case refine_2 =>
    rw [wrB_yes hc] at hfail hok
    have hlb := wrB_length [(o, 0)] ma
    generalize (wrB ma [(o, 0)]).1 = mb at *
    clear hc
    intro K' hK'; refine G1_call (by simp only [gtarget, ↓GArg.ev, ↓evs, ↓Tr.get_set, Nat.reduceEqDiff, if_true, if_false, ↓reduceIte, Option.map_some, ptr]; rfl) (hJb.write1 0 (o := o + 17 + p.length) (by omega)) fun r5 H5 hq5 => hK' _ _ ?_
    obtain ⟨rfl, hJ5, hB5⟩ := hq5
    have hB25 := hB2b.trans (hB5.mono mo_jo)
    have hL5 : H5.mine k = some (logCells (ptr i) l, 0) := hJ5.log
    repeat' (first | (exfalso; omega) | refine zn ?_ | refine zK rfl ?_ | refine zP rfl ?_ | ((first | refine zm ?_ | skip); intro _; intros; simp (disch := first | exact zd | fail) only [↓yS, yT, gresults, gone, ↓reduceIte, Nat.reduceEqDiff, Nat.reduceAdd, Nat.reduceMul, reduceCtorEq, Int.reduceToNat, g14, ptr, k5, hL5, logCells]; first | (rename_i K k; (first | refine yC (k _ _ ?_) | refine zg (k _ ?_)); clear k K) | (rename_i A B C D a b c d; (first | refine zx (a ?_) | refine zy (b ?_) | refine zz (fun hc => c ?_) (fun hc => d ?_) | refine zv (b ?_) | refine zw (a ?_)) <;> clear a b c d A B C D <;> try simp only [yL] at hc)) | refine zA ?_ | refine zB ?_ | refine zF ?_)
    case refine_1 => exact hfail _ (wrB_no hc) hc _ hJ5 hB25
    case refine_2 =>
    rw [wrB_yes hc] at hfail hok
    have hl5 := wrB_length [(o + 17 + p.length, 0)] mb
    generalize (wrB mb [(o + 17 + p.length, 0)]).1 = m5 at *
    clear hc
    have hp5 := hp.but hw hB25 ha
    intro K' hK'; refine G1_call (by simp only [gtarget, ↓GArg.ev, ↓evs, ↓Tr.get_set, Nat.reduceEqDiff, if_true, if_false, ↓reduceIte, Option.map_some, ptr]; rfl) (sealed_ok hJ5.wf hJ5.log hp5 hpl (by omega)) fun r6 H6 hq6 => hK' _ _ ?_
    have hJ6 := hJ5.later hq6.same
    have hB26 := hB25.trans (But.of (S := jo i j k) hq6.same)
    have hbl : (bodyB l.next p).length = 16 + p.length := by simp [bodyB, sealB_length, leB_length]; omega
    repeat' (first | (exfalso; omega) | refine zn ?_ | refine zK rfl ?_ | refine zP rfl ?_ | ((first | refine zm ?_ | skip); intro _; intros; simp (disch := first | exact zd | fail) only [↓yS, yT, gresults, gone, ↓reduceIte, Nat.reduceEqDiff, Nat.reduceAdd, Nat.reduceMul, reduceCtorEq, Int.reduceToNat, g14, ptr, k5]; first | (rename_i K k; (first | refine yC (k _ _ ?_) | refine zg (k _ ?_)); clear k K) | (rename_i A B C D a b c d; (first | refine zx (a ?_) | refine zy (b ?_) | refine zz (fun hc => c ?_) (fun hc => d ?_) | refine zv (b ?_) | refine zw (a ?_)) <;> clear a b c d A B C D <;> try simp only [yL] at hc)) | refine zA ?_ | refine zB ?_ | refine zF ?_)
    intro K' hK'; refine G1_call (by simp only [gtarget, ↓GArg.ev, ↓evs, ↓Tr.get_set, Nat.reduceEqDiff, if_true, if_false, ↓reduceIte, Option.map_some, ptr]; rfl) (hJ6.write hq6.rb (o := o + 1) ?_ (by omega)) fun r7 H7 hq7 => hK' _ _ ?_
    case refine_1 => exact fun a ha h2 => hJ5.young hq6.ids a ha (mo_jo a h2)
    case refine_2 =>
    obtain ⟨rfl, hJ7, hB7⟩ := hq7
    have hB27 := hB26.trans (hB7.mono mo_jo)
    have hL7 : H7.mine k = some (logCells (ptr i) l, 0) := hJ7.log
    repeat' (first | (exfalso; omega) | refine zn ?_ | refine zK rfl ?_ | refine zP rfl ?_ | ((first | refine zm ?_ | skip); intro _; intros; simp (disch := first | exact zd | fail) only [↓yS, yT, gresults, gone, ↓reduceIte, Nat.reduceEqDiff, Nat.reduceAdd, Nat.reduceMul, reduceCtorEq, Int.reduceToNat, g14, ptr, fill1z, hL7, logCells]; first | (rename_i K k; (first | refine yC (k _ _ ?_) | refine zg (k _ ?_)); clear k K) | (rename_i A B C D a b c d; (first | refine zx (a ?_) | refine zy (b ?_) | refine zz (fun hc => c ?_) (fun hc => d ?_) | refine zv (b ?_) | refine zw (a ?_)) <;> clear a b c d A B C D <;> try simp only [yL] at hc)) | refine zA ?_ | refine zB ?_ | refine zF ?_)
    case refine_1 => exact hfail _ (wrB_no hc) hc _ hJ7 hB27
    case refine_2 =>
    rw [wrB_yes hc] at hfail hok
    have hl7 := wrB_length (at_ (o + 1) (bodyB l.next p)) m5
    generalize (wrB m5 (at_ (o + 1) (bodyB l.next p))).1 = m7 at *
    clear hc
    intro K' hK'; refine G1_call (by simp only [gtarget, ↓GArg.ev, ↓evs, ↓Tr.get_set, Nat.reduceEqDiff, if_true, if_false, ↓reduceIte, Option.map_some, ptr]; rfl) (hJ7.write1 166 (o := o) (by omega)) fun r9 H9 hq9 => hK' _ _ ?_
    obtain ⟨rfl, hJ9, hB9⟩ := hq9
    have hB29 := hB27.trans (hB9.mono mo_jo)
    have hL9 : H9.mine k = some (logCells (ptr i) l, 0) := hJ9.log
    repeat' (first | (exfalso; omega) | refine zn ?_ | refine zK rfl ?_ | refine zP rfl ?_ | ((first | refine zm ?_ | skip); intro _; intros; simp (disch := first | exact zd | fail) only [↓yS, yT, gresults, gone, ↓reduceIte, Nat.reduceEqDiff, Nat.reduceAdd, Nat.reduceMul, reduceCtorEq, Int.reduceToNat, g14, ptr, fill1z, hL9, logCells]; first | (rename_i K k; (first | refine yC (k _ _ ?_) | refine zg (k _ ?_)); clear k K) | (rename_i A B C D a b c d; (first | refine zx (a ?_) | refine zy (b ?_) | refine zz (fun hc => c ?_) (fun hc => d ?_) | refine zv (b ?_) | refine zw (a ?_)) <;> clear a b c d A B C D <;> try simp only [yL] at hc)) | refine zA ?_ | refine zB ?_ | refine zF ?_)
    case refine_1 => exact hfail _ (wrB_no hc) hc _ hJ9 hB29
    case refine_2 =>
    rw [wrB_yes hc] at hfail hok
    have hl9 := wrB_length [(o, 166)] m7
    generalize (wrB m7 [(o, 166)]).1 = m9 at *
    clear hc
    intro K' hK'; refine G1_call (by simp only [gtarget, ↓GArg.ev, ↓evs, ↓Tr.get_set, Nat.reduceEqDiff, if_true, if_false, ↓reduceIte, Option.map_some, ptr]; rfl) (hJ9.write1 183 (o := q) (by omega)) fun r8 H8 hq8 => hK' _ _ ?_
    obtain ⟨rfl, hJ8, hB8⟩ := hq8
    have hB28 := hB29.trans (hB8.mono mo_jo)
    have hL8 : H8.mine k = some (logCells (ptr i) l, 0) := hJ8.log
    have hr8 := fun o => mine_rd (o := o) hL8
    have hlim8 := (mine_obj hL8).1
    repeat' (first | (exfalso; omega) | refine zn ?_ | refine zK rfl ?_ | refine zP rfl ?_ | ((first | refine zm ?_ | skip); intro _; intros; simp (disch := first | exact zd | fail) only [↓yS, yT, gresults, gone, ↓reduceIte, Nat.reduceEqDiff, Nat.reduceAdd, Nat.reduceMul, reduceCtorEq, Int.reduceToNat, g14, ptr, hL8, hr8, logCells, hsl.len, hg1]; first | (rename_i K k; (first | refine yC (k _ _ ?_) | refine zg (k _ ?_)); clear k K) | (rename_i A B C D a b c d; (first | refine zx (a ?_) | refine zy (b ?_) | refine zz (fun hc => c ?_) (fun hc => d ?_) | refine zv (b ?_) | refine zw (a ?_)) <;> clear a b c d A B C D <;> try simp only [yL] at hc)) | refine zA ?_ | refine zB ?_ | refine zF ?_)
    case refine_1 => exact hfail _ rfl hc _ hJ8 hB28
    case refine_2 =>
    have hfin := hJ8.broke {l with bank := 1 - l.bank, gen := (l.gen + 1) % 18446744073709551616, fin := 30 + p.length, next := l.next + 1, damaged := false}
    have hcast : logCells (ptr i) {l with bank := 1 - l.bank, gen := (l.gen + 1) % 18446744073709551616, fin := 30 + p.length, next := l.next + 1, damaged := false} = [Value.pointer (some ⟨i, 0, none⟩), .int .i64 ((1 - l.bank : Nat) : Int), .int .u64 (((l.gen + 1) % 18446744073709551616 : Nat) : Int), .int .i64 (30 + (p.length : Int)), .int .i64 ((l.next : Int) + 1), .bool l.broken, .bool false] := by
      simp only [logCells, ptr, Int.natCast_add]; rfl
    rw [hcast] at hfin
    rw [show (l.next : Int) + 1 - 1 = l.next by omega]
    exact hok _ rfl hc _ hfin.1 (hB28.trans hfin.2)
  case inr.inr.inl =>
    have e2 : compactJ m l p = (m, l.broke, 0, 21) := by
      simp only [compactJ, hr, if_true]
    rw [hr] at hL2 ⊢
    rw [if_pos rfl] at hL2
    repeat' (first | (exfalso; omega) | refine zn ?_ | refine zK rfl ?_ | refine zP rfl ?_ | ((first | refine zm ?_ | skip); intro _; intros; simp (disch := first | exact zd | fail) only [↓yS, yT, gresults, gone, ↓reduceIte, Nat.reduceEqDiff, Nat.reduceAdd, Nat.reduceMul, reduceCtorEq, Int.reduceToNat, g14]; first | (rename_i K k; (first | refine yC (k _ _ ?_) | refine zg (k _ ?_)); clear k K) | (rename_i A B C D a b c d; (first | refine zx (a ?_) | refine zy (b ?_) | refine zz (fun hc => c ?_) (fun hc => d ?_) | refine zv (b ?_) | refine zw (a ?_)) <;> clear a b c d A B C D <;> try simp only [yL] at hc)) | refine zA ?_ | refine zB ?_ | refine zF ?_)
    refine hPost _ _ ?_
    rw [e2]
    exact ⟨rfl, ⟨hB2.wf, hM2, hL2, h.ne⟩, hB2.mono fun z hz => .inr (.inr hz)⟩
  all_goals
    have e2 : compactJ m l p = (m, l, 0, refB m l 13 p.length) := by
      simp only [compactJ, hr]
      rw [if_neg (by decide), if_pos (by decide)]
    rw [hr] at hL2 e2 ⊢
    rw [if_neg (by decide)] at hL2
    repeat' (first | (exfalso; omega) | refine zn ?_ | refine zK rfl ?_ | refine zP rfl ?_ | ((first | refine zm ?_ | skip); intro _; intros; simp (disch := first | exact zd | fail) only [↓yS, yT, gresults, gone, ↓reduceIte, Nat.reduceEqDiff, Nat.reduceAdd, Nat.reduceMul, reduceCtorEq, Int.reduceToNat, g14]; first | (rename_i K k; (first | refine yC (k _ _ ?_) | refine zg (k _ ?_)); clear k K) | (rename_i A B C D a b c d; (first | refine zx (a ?_) | refine zy (b ?_) | refine zz (fun hc => c ?_) (fun hc => d ?_) | refine zv (b ?_) | refine zw (a ?_)) <;> clear a b c d A B C D <;> try simp only [yL] at hc)) | refine zA ?_ | refine zB ?_ | refine zF ?_)
    refine hPost _ _ ?_
    rw [e2]
    exact ⟨rfl, ⟨hB2.wf, hM2, hL2, h.ne⟩, hB2.mono fun z hz => .inr (.inr hz)⟩
end Go.Gh
