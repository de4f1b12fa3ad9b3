/-
  The reference's journal, walked: Compact. (Printed by mkJnR7.py.)
-/
import Derived.Test.YtbficpmoppailaaJnR6
namespace Go.Gh
set_option linter.unusedSimpArgs false
set_option linter.unusedVariables false
set_option maxHeartbeats 4000000
open Go.RowKit
set_option maxRecDepth 4000

/-- what the reference's Compact answers -/
def rcmpJ (m : JM) (l : JL) (p : List UInt8) : JM × JL × Nat × Int :=
  let e := refR m l 13 p.length
  if e ≠ 0 then (m, l, 0, e) else
  let r := wrR m (cmpW m l p)
  if r.off = true then (r, l.broke, 0, 21) else (r, {l with bank := 1 - l.bank, gen := (l.gen + 1) % 18446744073709551616, fin := 30 + p.length, next := l.next + 1, damaged := false}, l.next, 0)
set_option maxHeartbeats 2000000 in
theorem rcompact_ok {H : GHeap} (hw : H.wf) {dv : Value} {m : JM} {l : JL} (h : RM H dv m) (hbk : l.bank < 2) (hgen : l.gen < 18446744073709551616) {v : Value} {p : List UInt8} (hp : RB H v p) (hpl : p.length < 4294967296) :
    ∃ r H', gev G 28 [rmV dv m, rlV l, v] H = some (r, H') ∧ RWOut H H' dv r (rcmpJ m l p) := by
  refine gev_GW (f := 28) rfl fun Post hPost => ?_
  have hd := h.rb.flat
  have hbig := h.big
  have hlow := h.low
  have hsz : m.size = m.data.length / 2 := rfl
  have h1 := rm_all (m := m) hd
  have h2 := rm_list (dv := dv) (m := m)
  have h3 := rl_all (l := l)
  have h4 := rl_list (l := l)
  have hsl := hp.isSl
  simp only [frameOf, Nat.reduceAdd]
  repeat' (first | (exfalso; omega) | refine zn ?_ | refine zK rfl ?_ | refine zP rfl ?_ | ((first | refine zm ?_ | skip); intro _; intros; simp (disch := first | exact zd | fail) only [↓yS, yT, gresults, gone, ↓reduceIte, Nat.reduceEqDiff, Nat.reduceAdd, Nat.reduceMul, reduceCtorEq, Int.reduceToNat, g28, h1, h2, h3, h4]; first | (rename_i K k; (first | refine yC (k _ _ ?_) | refine zg (k _ ?_)); clear k K) | (rename_i A B C D a b c d; (first | refine zx (a ?_) | refine zy (b ?_) | refine zz (fun hc => c ?_) (fun hc => d ?_) | refine zv (b ?_) | refine zw (a ?_)) <;> clear a b c d A B C D <;> try simp only [yL] at hc)) | refine zA ?_ | refine zB ?_ | refine zF ?_)
  rw [show ([.int .i64 0, .slice none 0 0, .bool false, .int .i64 0, .bool false] : List Value) = z5 from rfl, show ([.int .i64 0, .int .i64 0, .int .i64 0, .int .u64 0, .bool false, .bool false] : List Value) = z6 from rfl]
  have hA := AS.start (dv := dv) (m := m) (l := l) hw
  generalize ((((H.add (some (.cells (rmC dv m) 0 true))).add (some (.cells (rlC l) 0 true))).add (some (.cells z5 0 true))).add (some (.cells z6 0 true))) = H1 at *
  obtain ⟨a1, a2, a3, a4, a5, a6, a7, a8⟩ := hA.rds
  repeat' (first | (exfalso; omega) | refine zn ?_ | refine zK rfl ?_ | refine zP rfl ?_ | ((first | refine zm ?_ | skip); intro _; intros; simp (disch := first | exact zd | fail) only [↓yS, yT, gresults, gone, ↓reduceIte, Nat.reduceEqDiff, Nat.reduceAdd, Nat.reduceMul, reduceCtorEq, Int.reduceToNat, g28, a1, a2]; first | (rename_i K k; (first | refine yC (k _ _ ?_) | refine zg (k _ ?_)); clear k K) | (rename_i A B C D a b c d; (first | refine zx (a ?_) | refine zy (b ?_) | refine zz (fun hc => c ?_) (fun hc => d ?_) | refine zv (b ?_) | refine zw (a ?_)) <;> clear a b c d A B C D <;> try simp only [yL] at hc)) | refine zA ?_ | refine zB ?_ | refine zF ?_)
  refine Gw_s fun K' hK' => G1_call (by simp only [gtarget, ↓GArg.ev, ↓evs, ↓Tr.get_set, Nat.reduceEqDiff, if_true, if_false, ↓reduceIte, Option.map_some]; rfl) (rrefused_ok hA.same.wf hd (m := m) (l := l) hbig (hp.same_ hw hA.same) (o := 13) (by decide) (by omega)) fun r2 H2 hq => hK' _ _ ?_
  obtain ⟨rfl, hS2⟩ := hq
  have hA2 := hA.later hS2
  clear hA a1 a2 a3 a4 a5 a6 a7 a8
  rcases refR_cases m l 13 p.length with hr | ⟨hr, hr1, hr2, hr3⟩
  · have hne : ¬ refR m l 13 p.length = 0 := by omega
    have hE : rcmpJ m l p = (m, l, 0, refR m l 13 p.length) := by simp only [rcmpJ]; rw [if_pos hne]
    generalize refR m l 13 p.length = e at *
    repeat' (first | (exfalso; omega) | refine zn ?_ | refine zK rfl ?_ | refine zP rfl ?_ | ((first | refine zm ?_ | skip); intro _; intros; simp (disch := first | exact zd | fail) only [↓yS, yT, gresults, gone, ↓reduceIte, Nat.reduceEqDiff, Nat.reduceAdd, Nat.reduceMul, reduceCtorEq, Int.reduceToNat, g28, hne]; first | (rename_i K k; (first | refine yC (k _ _ ?_) | refine zg (k _ ?_)); clear k K) | (rename_i A B C D a b c d; (first | refine zx (a ?_) | refine zy (b ?_) | refine zz (fun hc => c ?_) (fun hc => d ?_) | refine zv (b ?_) | refine zw (a ?_)) <;> clear a b c d A B C D <;> try simp only [yL] at hc)) | refine zA ?_ | refine zB ?_ | refine zF ?_)
    obtain ⟨b1, b2, b3, b4, b5⟩ := hA2.hid
    obtain ⟨c1, c2, c3, c4, c5, c6⟩ := hA2.end hd
    refine GW_hideO (v := ptr (H.len + 1 + 1)) (i := H.len + 1 + 1) (o := .cells z5 0 true) (by simp only [↓GArg.ev, ↓yG, Nat.reduceEqDiff, ↓reduceIte, ptr]) rfl b2 b1 ?_
    rw [show (GObj.cells z5 0 true).unit = 0 from rfl]
    repeat' (first | (exfalso; omega) | refine zn ?_ | refine zK rfl ?_ | refine zP rfl ?_ | ((first | refine zm ?_ | skip); intro _; intros; simp (disch := first | exact zd | fail) only [↓yS, yT, gresults, gone, ↓reduceIte, Nat.reduceEqDiff, Nat.reduceAdd, Nat.reduceMul, reduceCtorEq, Int.reduceToNat, g28, b3, b4]; first | (rename_i K k; (first | refine yC (k _ _ ?_) | refine zg (k _ ?_)); clear k K) | (rename_i A B C D a b c d; (first | refine zx (a ?_) | refine zy (b ?_) | refine zz (fun hc => c ?_) (fun hc => d ?_) | refine zv (b ?_) | refine zw (a ?_)) <;> clear a b c d A B C D <;> try simp only [yL] at hc)) | refine zA ?_ | refine zB ?_ | refine zF ?_)
    rw [put_put, put_self b1]
    refine Gp_0t (by simp [aims, target, idOf, GArg.ev, Tr.get_set]) fun K' hK' => ?_
    simp (disch := first | exact zd | fail) only [↓yS, yT, ↓reduceIte, Nat.reduceEqDiff, Nat.reduceAdd, Nat.reduceMul, reduceCtorEq, Int.reduceToNat, hA2.m6, c1]
    refine G1_go (hK' _ _ ?_)
    clear hK' K'
    repeat' (first | (exfalso; omega) | refine zn ?_ | refine zK rfl ?_ | refine zP rfl ?_ | ((first | refine zm ?_ | skip); intro _; intros; simp (disch := first | exact zd | fail) only [↓yS, yT, gresults, gone, ↓reduceIte, Nat.reduceEqDiff, Nat.reduceAdd, Nat.reduceMul, reduceCtorEq, Int.reduceToNat, g28, c2, c3]; first | (rename_i K k; (first | refine yC (k _ _ ?_) | refine zg (k _ ?_)); clear k K) | (rename_i A B C D a b c d; (first | refine zx (a ?_) | refine zy (b ?_) | refine zz (fun hc => c ?_) (fun hc => d ?_) | refine zv (b ?_) | refine zw (a ?_)) <;> clear a b c d A B C D <;> try simp only [yL] at hc)) | refine zA ?_ | refine zB ?_ | refine zF ?_)
    show GR g28.rets Post _ (ASF H H2 dv m l)
    repeat' (first | (exfalso; omega) | refine zn ?_ | refine zK rfl ?_ | refine zP rfl ?_ | ((first | refine zm ?_ | skip); intro _; intros; simp (disch := first | exact zd | fail) only [↓yS, yT, gresults, gone, ↓reduceIte, Nat.reduceEqDiff, Nat.reduceAdd, Nat.reduceMul, reduceCtorEq, Int.reduceToNat, g28, c4, c5]; first | (rename_i K k; (first | refine yC (k _ _ ?_) | refine zg (k _ ?_)); clear k K) | (rename_i A B C D a b c d; (first | refine zx (a ?_) | refine zy (b ?_) | refine zz (fun hc => c ?_) (fun hc => d ?_) | refine zv (b ?_) | refine zw (a ?_)) <;> clear a b c d A B C D <;> try simp only [yL] at hc)) | refine zA ?_ | refine zB ?_ | refine zF ?_)
    have hRY := (h.rb.same_ hw c6)
    exact hPost _ _ (by rw [hE]; exact ⟨dv, rfl, hRY, c6, fun a ha => .inl ha⟩)
  rw [hr]
  have hE : rcmpJ m l p = if (wrR m (cmpW m l p)).off = true then (wrR m (cmpW m l p), l.broke, 0, 21) else (wrR m (cmpW m l p), {l with bank := 1 - l.bank, gen := (l.gen + 1) % 18446744073709551616, fin := 30 + p.length, next := l.next + 1, damaged := false}, l.next, 0) := by
    simp only [rcmpJ]; rw [if_neg (by omega)]
  have hm1 : (1 - l.bank) * m.size ≤ m.data.length ∧ (1 - l.bank) * m.size + m.size ≤ m.data.length := by
    rcases (show l.bank = 0 ∨ l.bank = 1 by omega) with e | e <;> rw [e] <;> omega
  have k0 : ∀ e, gbin .sub e (.int .i64 1) (.int .i64 (l.bank : Int)) = some (.int .i64 ((1 - l.bank : Nat) : Int)) := fun e => by
    rw [gb_sub, wr_i64 (by omega)]
    congr 2; omega
  have k1 : ∀ e, gbin .mul e (.int .i64 ((1 - l.bank : Nat) : Int)) (.int .i64 (m.size : Int)) = some (.int .i64 (((1 - l.bank) * m.size : Nat) : Int)) := fun e => by
    rw [gb_mul, ← Int.natCast_mul, wr_i64 (by omega)]
  have happ : cmpW m l p = [((1 - l.bank) * m.size, 0)] ++ (at_ ((1 - l.bank) * m.size + 1) (sealB (leB 8 (l.gen + 1))) ++ ([((1 - l.bank) * m.size + 13, 0)] ++ ([((1 - l.bank) * m.size + 13 + 17 + p.length, 0)] ++ (at_ ((1 - l.bank) * m.size + 13 + 1) (bodyB l.next p) ++ ([((1 - l.bank) * m.size + 13, 166)] ++ [((1 - l.bank) * m.size, 183)]))))) := rfl
  rw [hE, happ] at hPost
  clear hE happ
  have hg1 : ∀ e, gbin .add e (.int .u64 (l.gen : Int)) (.int .u64 1) = some (.int .u64 (((l.gen + 1) % 18446744073709551616 : Nat) : Int)) := fun e => by
    rw [gb_add, IntKind.wrap_u64]; congr 2
  have hg2 : leB 8 ((l.gen + 1) % 18446744073709551616) = leB 8 (l.gen + 1) := leB_mod 8 _ _ (by
    rw [show (256 : Nat) ^ 8 = 18446744073709551616 by decide, Nat.mod_mod])
  have hgl : (l.gen + 1) % 18446744073709551616 < 18446744073709551616 := Nat.mod_lt _ (by decide)
  have hob : (1 - l.bank) * m.size + 13 + 17 + p.length < m.data.length := by omega
  generalize hoe : (1 - l.bank) * m.size = q at *
  have k2 : ∀ e, gbin .add e (.int .i64 (q : Int)) (.int .i64 13) = some (.int .i64 ((q + 13 : Nat) : Int)) := fun e => by
    rw [gb_add, wr_i64 (by omega)]; rfl
  generalize ho : q + 13 = o at *
  have k3 : ∀ e, gbin .add e (.int .i64 (o : Int)) (.int .i64 17) = some (.int .i64 ((o + 17 : Nat) : Int)) := fun e => by
    rw [gb_add, wr_i64 (by omega)]; rfl
  have k4 : ∀ e, gbin .add e (.int .i64 ((o + 17 : Nat) : Int)) (.int .i64 (p.length : Int)) = some (.int .i64 ((o + 17 + p.length : Nat) : Int)) := fun e => by
    rw [gb_add, wr_i64 (by omega)]; rfl
  have k5 : ∀ e, gbin .add e (.int .i64 (o : Int)) (.int .i64 1) = some (.int .i64 ((o + 1 : Nat) : Int)) := fun e => by
    rw [gb_add, wr_i64 (by omega)]; rfl
  have k6 : ∀ e, gbin .add e (.int .i64 (q : Int)) (.int .i64 1) = some (.int .i64 ((q + 1 : Nat) : Int)) := fun e => by
    rw [gb_add, wr_i64 (by omega)]; rfl
  obtain ⟨a1, a2, a3, a4, a5, a6, a7, a8⟩ := hA2.rds
  repeat' (first | (exfalso; omega) | refine zn ?_ | refine zK rfl ?_ | refine zP rfl ?_ | ((first | refine zm ?_ | skip); intro _; intros; simp (disch := first | exact zd | fail) only [↓yS, yT, gresults, gone, ↓reduceIte, Nat.reduceEqDiff, Nat.reduceAdd, Nat.reduceMul, reduceCtorEq, Int.reduceToNat, g28, a1]; first | (rename_i K k; (first | refine yC (k _ _ ?_) | refine zg (k _ ?_)); clear k K) | (rename_i A B C D a b c d; (first | refine zx (a ?_) | refine zy (b ?_) | refine zz (fun hc => c ?_) (fun hc => d ?_) | refine zv (b ?_) | refine zw (a ?_)) <;> clear a b c d A B C D <;> try simp only [yL] at hc)) | refine zA ?_ | refine zB ?_ | refine zF ?_)
  refine Gw_s fun K' hK' => G1_call (by simp only [gtarget, ↓GArg.ev, ↓evs, ↓Tr.get_set, Nat.reduceEqDiff, if_true, if_false, ↓reduceIte, Option.map_some]; rfl) (rcopied_ok hA2.same.wf ⟨h.rb.same_ hw hA2.same, hbig, hlow⟩) fun r3 H3 hq => hK' _ _ ?_
  obtain ⟨dv2, rfl, hO3⟩ := hq
  have hA3 := hA2.later hO3.same
  have hO3 := hO3.weaken hA2.same
  have hd2 := hO3.rb.flat
  have c1 : gsetn (rmC dv m) 0 5 (rmV dv2 m) = some (rmC dv2 m) := rm_gset rfl hd2
  have c2 := hA3.m3
  repeat' (first | (exfalso; omega) | refine zn ?_ | refine zK rfl ?_ | refine zP rfl ?_ | ((first | refine zm ?_ | skip); intro _; intros; simp (disch := first | exact zd | fail) only [↓yS, yT, gresults, gone, ↓reduceIte, Nat.reduceEqDiff, Nat.reduceAdd, Nat.reduceMul, reduceCtorEq, Int.reduceToNat, g28, c1, c2]; first | (rename_i K k; (first | refine yC (k _ _ ?_) | refine zg (k _ ?_)); clear k K) | (rename_i A B C D a b c d; (first | refine zx (a ?_) | refine zy (b ?_) | refine zz (fun hc => c ?_) (fun hc => d ?_) | refine zv (b ?_) | refine zw (a ?_)) <;> clear a b c d A B C D <;> try simp only [yL] at hc)) | refine zA ?_ | refine zB ?_ | refine zF ?_)
  have hA4 := hA3.put3 dv2 m
  have hO4 := hO3.put0 (Nat.le_refl _) c2 (.cells (rmC dv2 m) 0 true)
  generalize H3.put H.len (.cells (rmC dv2 m) 0 true) = H4 at *
  clear a1 a2 a3 a4 a5 a6 a7 a8 c1 c2 hO3 hA3 hA2 hS2
  obtain ⟨a1, a2, a3, a4, a5, a6, a7, a8⟩ := hA4.rds
  repeat' (first | (exfalso; omega) | refine zn ?_ | refine zK rfl ?_ | refine zP rfl ?_ | ((first | refine zm ?_ | skip); intro _; intros; simp (disch := first | exact zd | fail) only [↓yS, yT, gresults, gone, ↓reduceIte, Nat.reduceEqDiff, Nat.reduceAdd, Nat.reduceMul, reduceCtorEq, Int.reduceToNat, g28, a1, hsl.len, fill1z, a3, a5, k0, k1]; first | (rename_i K k; (first | refine yC (k _ _ ?_) | refine zg (k _ ?_)); clear k K) | (rename_i A B C D a b c d; (first | refine zx (a ?_) | refine zy (b ?_) | refine zz (fun hc => c ?_) (fun hc => d ?_) | refine zv (b ?_) | refine zw (a ?_)) <;> clear a b c d A B C D <;> try simp only [yL] at hc)) | refine zA ?_ | refine zB ?_ | refine zF ?_)
  refine Gw_s fun K' hK' => G1_call (by simp only [gtarget, ↓GArg.ev, ↓evs, ↓Tr.get_set, Nat.reduceEqDiff, if_true, if_false, ↓reduceIte, Option.map_some]; rfl) (rwrite1 hO4 (by omega) (by omega) 0 (o := q) (by omega)) fun r5 H5 hq5 => hK' _ _ ?_
  obtain ⟨rfl, hO5, hB5⟩ := hq5
  obtain ⟨w1, w2, hA6, hO6⟩ := hA4.wrote hO4 hO5 hB5
  rw [wrR_append] at hPost
  have hl6 := wrR_len [(q, 0)] m
  generalize wrR m [(q, 0)] = m6 at *
  repeat' (first | (exfalso; omega) | refine zn ?_ | refine zK rfl ?_ | refine zP rfl ?_ | ((first | refine zm ?_ | skip); intro _; intros; simp (disch := first | exact zd | fail) only [↓yS, yT, gresults, gone, ↓reduceIte, Nat.reduceEqDiff, Nat.reduceAdd, Nat.reduceMul, reduceCtorEq, Int.reduceToNat, g28, w1, w2]; first | (rename_i K k; (first | refine yC (k _ _ ?_) | refine zg (k _ ?_)); clear k K) | (rename_i A B C D a b c d; (first | refine zx (a ?_) | refine zy (b ?_) | refine zz (fun hc => c ?_) (fun hc => d ?_) | refine zv (b ?_) | refine zw (a ?_)) <;> clear a b c d A B C D <;> try simp only [yL] at hc)) | refine zA ?_ | refine zB ?_ | refine zF ?_)
  generalize H5.put H.len (.cells (rmC dv2 m6) 0 true) = H6 at *
  clear a1 a2 a3 a4 a5 a6 a7 a8 w1 w2 hO5 hB5 hA4 hO4
  have hw6 := hA6.same.wf
  refine GW_hideN (by simp [hidden, GArg.ev, idOf]) ?_
  obtain ⟨a1, a2, a3, a4, a5, a6, a7, a8⟩ := hA6.rds
  repeat' (first | (exfalso; omega) | refine zn ?_ | refine zK rfl ?_ | refine zP rfl ?_ | ((first | refine zm ?_ | skip); intro _; intros; simp (disch := first | exact zd | fail) only [↓yS, yT, gresults, gone, ↓reduceIte, Nat.reduceEqDiff, Nat.reduceAdd, Nat.reduceMul, reduceCtorEq, Int.reduceToNat, g28, a1, a8, hg1, k6]; first | (rename_i K k; (first | refine yC (k _ _ ?_) | refine zg (k _ ?_)); clear k K) | (rename_i A B C D a b c d; (first | refine zx (a ?_) | refine zy (b ?_) | refine zz (fun hc => c ?_) (fun hc => d ?_) | refine zv (b ?_) | refine zw (a ?_)) <;> clear a b c d A B C D <;> try simp only [yL] at hc)) | refine zA ?_ | refine zB ?_ | refine zF ?_)
  refine Gp_c (by simp only [gtarget, ↓GArg.ev, ↓evs, ↓Tr.get_set, Nat.reduceEqDiff, if_true, if_false, ↓reduceIte, Option.map_some]; rfl) (rlow_ok hw6 (n := (l.gen + 1) % 18446744073709551616) (k := 8) (by decide) hgl) ?_ fun rg Hg hqg => ?_
  · exact fun v H' h i hi hni => h.same.obj i hi
  refine Gp_c (by simp only [gtarget, ↓GArg.ev, ↓evs, ↓Tr.get_set, Nat.reduceEqDiff, if_true, if_false, ↓reduceIte, Option.map_some]; rfl) (rseal_ok hqg.same.wf hqg.rb (by rw [leB_length]; decide)) ?_ fun rs Hs hqs => ?_
  · exact fun v H' h i hi hni => h.same.obj i hi
  rw [hg2] at hqs
  have hOs := hqs.weaken hqg.same
  have hA7 := hA6.later hOs.same
  have hO7 := hO6.later hOs.same
  have hsl12 : (sealB (leB 8 (l.gen + 1))).length = 12 := by rw [sealB_length, leB_length]
  have hdis : ∀ a ∈ idOf rs, ¬ a ∈ idOf dv2 := fun a ha hb => by
    have h1 := hOs.young' a ha
    have h2 := hO6.rb.idlt hw6 a hb
    omega
  refine Gp_s fun K' hK' => G1_call (by simp only [gtarget, ↓GArg.ev, ↓evs, ↓Tr.get_set, Nat.reduceEqDiff, if_true, if_false, ↓reduceIte, Option.map_some]; rfl) (rwrite_ok hO7 (by omega) (by omega) hOs.rb hdis (o := q + 1) (by omega)) fun r8 H8 hq8 => hK' _ _ ?_
  clear hK' K'
  obtain ⟨rfl, hO8, hB8⟩ := hq8
  obtain ⟨w1, w2, hA9, hO9⟩ := hA7.wrote hO7 hO8 hB8
  rw [wrR_append] at hPost
  have hl9 := wrR_len (at_ (q + 1) (sealB (leB 8 (l.gen + 1)))) m6
  generalize wrR m6 (at_ (q + 1) (sealB (leB 8 (l.gen + 1)))) = m9 at *
  repeat' (first | (exfalso; omega) | refine zn ?_ | refine zK rfl ?_ | refine zP rfl ?_ | ((first | refine zm ?_ | skip); intro _; intros; simp (disch := first | exact zd | fail) only [↓yS, yT, gresults, gone, ↓reduceIte, Nat.reduceEqDiff, Nat.reduceAdd, Nat.reduceMul, reduceCtorEq, Int.reduceToNat, g28, w1, w2]; first | (rename_i K k; (first | refine yC (k _ _ ?_) | refine zg (k _ ?_)); clear k K) | (rename_i A B C D a b c d; (first | refine zx (a ?_) | refine zy (b ?_) | refine zz (fun hc => c ?_) (fun hc => d ?_) | refine zv (b ?_) | refine zw (a ?_)) <;> clear a b c d A B C D <;> try simp only [yL] at hc)) | refine zA ?_ | refine zB ?_ | refine zF ?_)
  generalize H8.put H.len (.cells (rmC dv2 m9) 0 true) = H9 at *
  clear a1 a2 a3 a4 a5 a6 a7 a8 w1 w2 hO8 hB8 hA7 hO7 hA6 hO6 hqg hqs hOs hdis
  obtain ⟨a1, a2, a3, a4, a5, a6, a7, a8⟩ := hA9.rds
  repeat' (first | (exfalso; omega) | refine zn ?_ | refine zK rfl ?_ | refine zP rfl ?_ | ((first | refine zm ?_ | skip); intro _; intros; simp (disch := first | exact zd | fail) only [↓yS, yT, gresults, gone, ↓reduceIte, Nat.reduceEqDiff, Nat.reduceAdd, Nat.reduceMul, reduceCtorEq, Int.reduceToNat, g28, a1, hsl.len, fill1z, k2]; first | (rename_i K k; (first | refine yC (k _ _ ?_) | refine zg (k _ ?_)); clear k K) | (rename_i A B C D a b c d; (first | refine zx (a ?_) | refine zy (b ?_) | refine zz (fun hc => c ?_) (fun hc => d ?_) | refine zv (b ?_) | refine zw (a ?_)) <;> clear a b c d A B C D <;> try simp only [yL] at hc)) | refine zA ?_ | refine zB ?_ | refine zF ?_)
  refine Gw_s fun K' hK' => G1_call (by simp only [gtarget, ↓GArg.ev, ↓evs, ↓Tr.get_set, Nat.reduceEqDiff, if_true, if_false, ↓reduceIte, Option.map_some]; rfl) (rwrite1 hO9 (by omega) (by omega) 0 (o := o) (by omega)) fun r10 H10 hq10 => hK' _ _ ?_
  obtain ⟨rfl, hO10, hB10⟩ := hq10
  obtain ⟨w1, w2, hA11, hO11⟩ := hA9.wrote hO9 hO10 hB10
  rw [wrR_append] at hPost
  have hl11 := wrR_len [(o, 0)] m9
  generalize wrR m9 [(o, 0)] = m11 at *
  repeat' (first | (exfalso; omega) | refine zn ?_ | refine zK rfl ?_ | refine zP rfl ?_ | ((first | refine zm ?_ | skip); intro _; intros; simp (disch := first | exact zd | fail) only [↓yS, yT, gresults, gone, ↓reduceIte, Nat.reduceEqDiff, Nat.reduceAdd, Nat.reduceMul, reduceCtorEq, Int.reduceToNat, g28, w1, w2]; first | (rename_i K k; (first | refine yC (k _ _ ?_) | refine zg (k _ ?_)); clear k K) | (rename_i A B C D a b c d; (first | refine zx (a ?_) | refine zy (b ?_) | refine zz (fun hc => c ?_) (fun hc => d ?_) | refine zv (b ?_) | refine zw (a ?_)) <;> clear a b c d A B C D <;> try simp only [yL] at hc)) | refine zA ?_ | refine zB ?_ | refine zF ?_)
  generalize H10.put H.len (.cells (rmC dv2 m11) 0 true) = H11 at *
  clear a1 a2 a3 a4 a5 a6 a7 a8 w1 w2 hO10 hB10 hA9 hO9
  obtain ⟨a1, a2, a3, a4, a5, a6, a7, a8⟩ := hA11.rds
  repeat' (first | (exfalso; omega) | refine zn ?_ | refine zK rfl ?_ | refine zP rfl ?_ | ((first | refine zm ?_ | skip); intro _; intros; simp (disch := first | exact zd | fail) only [↓yS, yT, gresults, gone, ↓reduceIte, Nat.reduceEqDiff, Nat.reduceAdd, Nat.reduceMul, reduceCtorEq, Int.reduceToNat, g28, a1, hsl.len, fill1z, k2, k3, k4]; first | (rename_i K k; (first | refine yC (k _ _ ?_) | refine zg (k _ ?_)); clear k K) | (rename_i A B C D a b c d; (first | refine zx (a ?_) | refine zy (b ?_) | refine zz (fun hc => c ?_) (fun hc => d ?_) | refine zv (b ?_) | refine zw (a ?_)) <;> clear a b c d A B C D <;> try simp only [yL] at hc)) | refine zA ?_ | refine zB ?_ | refine zF ?_)
  refine Gw_s fun K' hK' => G1_call (by simp only [gtarget, ↓GArg.ev, ↓evs, ↓Tr.get_set, Nat.reduceEqDiff, if_true, if_false, ↓reduceIte, Option.map_some]; rfl) (rwrite1 hO11 (by omega) (by omega) 0 (o := o + 17 + p.length) (by omega)) fun r12 H12 hq12 => hK' _ _ ?_
  obtain ⟨rfl, hO12, hB12⟩ := hq12
  obtain ⟨w1, w2, hA13, hO13⟩ := hA11.wrote hO11 hO12 hB12
  rw [wrR_append] at hPost
  have hl13 := wrR_len [(o + 17 + p.length, 0)] m11
  generalize wrR m11 [(o + 17 + p.length, 0)] = m13 at *
  repeat' (first | (exfalso; omega) | refine zn ?_ | refine zK rfl ?_ | refine zP rfl ?_ | ((first | refine zm ?_ | skip); intro _; intros; simp (disch := first | exact zd | fail) only [↓yS, yT, gresults, gone, ↓reduceIte, Nat.reduceEqDiff, Nat.reduceAdd, Nat.reduceMul, reduceCtorEq, Int.reduceToNat, g28, w1, w2]; first | (rename_i K k; (first | refine yC (k _ _ ?_) | refine zg (k _ ?_)); clear k K) | (rename_i A B C D a b c d; (first | refine zx (a ?_) | refine zy (b ?_) | refine zz (fun hc => c ?_) (fun hc => d ?_) | refine zv (b ?_) | refine zw (a ?_)) <;> clear a b c d A B C D <;> try simp only [yL] at hc)) | refine zA ?_ | refine zB ?_ | refine zF ?_)
  generalize H12.put H.len (.cells (rmC dv2 m13) 0 true) = H13 at *
  clear a1 a2 a3 a4 a5 a6 a7 a8 w1 w2 hO12 hB12 hA11 hO11
  have hw13 := hA13.same.wf
  have hp13 := hp.same_ hw hA13.same
  have hpl13 := hp.idlt hw
  refine GW_hideB (v := v) hw13 hp13 (by simp only [↓GArg.ev, ↓yG, Nat.reduceEqDiff, ↓reduceIte]) fun Hd hid bk hbk hmn => ?_
  have hx3 := hA13.m3
  have hx4 := hA13.m4
  rw [← hmn _ fun hh => by have := hpl13 _ hh; omega] at hx3 hx4
  have a1 := rm_rdn hx3
  have a7 : Hd.rd (H.len + 1) 2 = some (.int .i64 (l.next : Int)) := mine_rd hx4
  repeat' (first | (exfalso; omega) | refine zn ?_ | refine zK rfl ?_ | refine zP rfl ?_ | ((first | refine zm ?_ | skip); intro _; intros; simp (disch := first | exact zd | fail) only [↓yS, yT, gresults, gone, ↓reduceIte, Nat.reduceEqDiff, Nat.reduceAdd, Nat.reduceMul, reduceCtorEq, Int.reduceToNat, g28, a1, a7, k2, k5]; first | (rename_i K k; (first | refine yC (k _ _ ?_) | refine zg (k _ ?_)); clear k K) | (rename_i A B C D a b c d; (first | refine zx (a ?_) | refine zy (b ?_) | refine zz (fun hc => c ?_) (fun hc => d ?_) | refine zv (b ?_) | refine zw (a ?_)) <;> clear a b c d A B C D <;> try simp only [yL] at hc)) | refine zA ?_ | refine zB ?_ | refine zF ?_)
  rw [hbk]
  refine Gp_c (by simp only [gtarget, ↓GArg.ev, ↓evs, ↓Tr.get_set, Nat.reduceEqDiff, if_true, if_false, ↓reduceIte, Option.map_some]; rfl) (rrecord_ok hw13 hp13 hpl (n := l.next) (by omega)) ?_ fun r14 H14 hq14 => ?_
  · exact fun v H' h i hi hni => h.same.obj i hi
  have hA14 := hA13.later hq14.same
  have hO14 := hO13.later hq14.same
  have hbl : (bodyB l.next p).length = 16 + p.length := by simp [bodyB, sealB_length, leB_length]; omega
  have hdis : ∀ a ∈ idOf r14, ¬ a ∈ idOf dv2 := fun a ha hb => by
    have h1 := hq14.young' a ha
    have h2 := hO13.rb.idlt hw13 a hb
    omega
  refine Gp_s fun K' hK' => G1_call (by simp only [gtarget, ↓GArg.ev, ↓evs, ↓Tr.get_set, Nat.reduceEqDiff, if_true, if_false, ↓reduceIte, Option.map_some]; rfl) (rwrite_ok hO14 (by omega) (by omega) hq14.rb hdis (o := o + 1) (by omega)) fun r15 H15 hq15 => hK' _ _ ?_
  clear hK' K'
  obtain ⟨rfl, hO15, hB15⟩ := hq15
  obtain ⟨w1, w2, hA16, hO16⟩ := hA14.wrote hO14 hO15 hB15
  rw [wrR_append] at hPost
  have hl16 := wrR_len (at_ (o + 1) (bodyB l.next p)) m13
  generalize wrR m13 (at_ (o + 1) (bodyB l.next p)) = m16 at *
  repeat' (first | (exfalso; omega) | refine zn ?_ | refine zK rfl ?_ | refine zP rfl ?_ | ((first | refine zm ?_ | skip); intro _; intros; simp (disch := first | exact zd | fail) only [↓yS, yT, gresults, gone, ↓reduceIte, Nat.reduceEqDiff, Nat.reduceAdd, Nat.reduceMul, reduceCtorEq, Int.reduceToNat, g28, w1, w2]; first | (rename_i K k; (first | refine yC (k _ _ ?_) | refine zg (k _ ?_)); clear k K) | (rename_i A B C D a b c d; (first | refine zx (a ?_) | refine zy (b ?_) | refine zz (fun hc => c ?_) (fun hc => d ?_) | refine zv (b ?_) | refine zw (a ?_)) <;> clear a b c d A B C D <;> try simp only [yL] at hc)) | refine zA ?_ | refine zB ?_ | refine zF ?_)
  generalize H15.put H.len (.cells (rmC dv2 m16) 0 true) = H16 at *
  clear a1 a7 w1 w2 hO15 hB15 hA14 hO14 hA13 hO13 hq14 hbk hmn hx3 hx4
  obtain ⟨a1, a2, a3, a4, a5, a6, a7, a8⟩ := hA16.rds
  repeat' (first | (exfalso; omega) | refine zn ?_ | refine zK rfl ?_ | refine zP rfl ?_ | ((first | refine zm ?_ | skip); intro _; intros; simp (disch := first | exact zd | fail) only [↓yS, yT, gresults, gone, ↓reduceIte, Nat.reduceEqDiff, Nat.reduceAdd, Nat.reduceMul, reduceCtorEq, Int.reduceToNat, g28, a1, hsl.len, fill1z, k2]; first | (rename_i K k; (first | refine yC (k _ _ ?_) | refine zg (k _ ?_)); clear k K) | (rename_i A B C D a b c d; (first | refine zx (a ?_) | refine zy (b ?_) | refine zz (fun hc => c ?_) (fun hc => d ?_) | refine zv (b ?_) | refine zw (a ?_)) <;> clear a b c d A B C D <;> try simp only [yL] at hc)) | refine zA ?_ | refine zB ?_ | refine zF ?_)
  refine Gw_s fun K' hK' => G1_call (by simp only [gtarget, ↓GArg.ev, ↓evs, ↓Tr.get_set, Nat.reduceEqDiff, if_true, if_false, ↓reduceIte, Option.map_some]; rfl) (rwrite1 hO16 (by omega) (by omega) 166 (o := o) (by omega)) fun r17 H17 hq17 => hK' _ _ ?_
  obtain ⟨rfl, hO17, hB17⟩ := hq17
  obtain ⟨w1, w2, hA18, hO18⟩ := hA16.wrote hO16 hO17 hB17
  rw [wrR_append] at hPost
  have hl18 := wrR_len [(o, 166)] m16
  generalize wrR m16 [(o, 166)] = m18 at *
  repeat' (first | (exfalso; omega) | refine zn ?_ | refine zK rfl ?_ | refine zP rfl ?_ | ((first | refine zm ?_ | skip); intro _; intros; simp (disch := first | exact zd | fail) only [↓yS, yT, gresults, gone, ↓reduceIte, Nat.reduceEqDiff, Nat.reduceAdd, Nat.reduceMul, reduceCtorEq, Int.reduceToNat, g28, w1, w2]; first | (rename_i K k; (first | refine yC (k _ _ ?_) | refine zg (k _ ?_)); clear k K) | (rename_i A B C D a b c d; (first | refine zx (a ?_) | refine zy (b ?_) | refine zz (fun hc => c ?_) (fun hc => d ?_) | refine zv (b ?_) | refine zw (a ?_)) <;> clear a b c d A B C D <;> try simp only [yL] at hc)) | refine zA ?_ | refine zB ?_ | refine zF ?_)
  generalize H17.put H.len (.cells (rmC dv2 m18) 0 true) = H18 at *
  clear a1 a2 a3 a4 a5 a6 a7 a8 w1 w2 hO17 hB17 hA16 hO16
  obtain ⟨a1, a2, a3, a4, a5, a6, a7, a8⟩ := hA18.rds
  repeat' (first | (exfalso; omega) | refine zn ?_ | refine zK rfl ?_ | refine zP rfl ?_ | ((first | refine zm ?_ | skip); intro _; intros; simp (disch := first | exact zd | fail) only [↓yS, yT, gresults, gone, ↓reduceIte, Nat.reduceEqDiff, Nat.reduceAdd, Nat.reduceMul, reduceCtorEq, Int.reduceToNat, g28, a1, hsl.len, fill1z]; first | (rename_i K k; (first | refine yC (k _ _ ?_) | refine zg (k _ ?_)); clear k K) | (rename_i A B C D a b c d; (first | refine zx (a ?_) | refine zy (b ?_) | refine zz (fun hc => c ?_) (fun hc => d ?_) | refine zv (b ?_) | refine zw (a ?_)) <;> clear a b c d A B C D <;> try simp only [yL] at hc)) | refine zA ?_ | refine zB ?_ | refine zF ?_)
  refine Gw_s fun K' hK' => G1_call (by simp only [gtarget, ↓GArg.ev, ↓evs, ↓Tr.get_set, Nat.reduceEqDiff, if_true, if_false, ↓reduceIte, Option.map_some]; rfl) (rwrite1 hO18 (by omega) (by omega) 183 (o := q) (by omega)) fun r19 H19 hq19 => hK' _ _ ?_
  obtain ⟨rfl, hO19, hB19⟩ := hq19
  obtain ⟨w1, w2, hA20, hO20⟩ := hA18.wrote hO18 hO19 hB19
  generalize wrR m18 [(q, 183)] = m20 at *
  have hal : (rlC l).length = 6 := rfl
  have hx4 := hA20.m4
  cases hoff : m20.off with
  | true =>
    repeat' (first | (exfalso; omega) | refine zn ?_ | refine zK rfl ?_ | refine zP rfl ?_ | ((first | refine zm ?_ | skip); intro _; intros; simp (disch := first | exact zd | fail) only [↓yS, yT, gresults, gone, ↓reduceIte, Nat.reduceEqDiff, Nat.reduceAdd, Nat.reduceMul, reduceCtorEq, Int.reduceToNat, g28, w1, w2, hoff]; first | (rename_i K k; (first | refine yC (k _ _ ?_) | refine zg (k _ ?_)); clear k K) | (rename_i A B C D a b c d; (first | refine zx (a ?_) | refine zy (b ?_) | refine zz (fun hc => c ?_) (fun hc => d ?_) | refine zv (b ?_) | refine zw (a ?_)) <;> clear a b c d A B C D <;> try simp only [yL] at hc)) | refine zA ?_ | refine zB ?_ | refine zF ?_)
    generalize H19.put H.len (.cells (rmC dv2 m20) 0 true) = H20 at *
    have hg5 : (rlC l).set 5 (.bool true) = rlC l.broke := rfl
    repeat' (first | (exfalso; omega) | refine zn ?_ | refine zK rfl ?_ | refine zP rfl ?_ | ((first | refine zm ?_ | skip); intro _; intros; simp (disch := first | exact zd | fail) only [↓yS, yT, gresults, gone, ↓reduceIte, Nat.reduceEqDiff, Nat.reduceAdd, Nat.reduceMul, reduceCtorEq, Int.reduceToNat, g28, hx4, hal, hg5]; first | (rename_i K k; (first | refine yC (k _ _ ?_) | refine zg (k _ ?_)); clear k K) | (rename_i A B C D a b c d; (first | refine zx (a ?_) | refine zy (b ?_) | refine zz (fun hc => c ?_) (fun hc => d ?_) | refine zv (b ?_) | refine zw (a ?_)) <;> clear a b c d A B C D <;> try simp only [yL] at hc)) | refine zA ?_ | refine zB ?_ | refine zF ?_)
    have hA21 := hA20.put4 l.broke
    have hO21 := hO20.put0 (by omega) hx4 (.cells (rlC l.broke) 0 true)
    generalize H20.put (H.len + 1) (.cells (rlC l.broke) 0 true) = H21 at *
    obtain ⟨b1, b2, b3, b4, b5⟩ := hA21.hid
    obtain ⟨c1, c2, c3, c4, c5, c6⟩ := hA21.end hd2
    refine GW_hideO (v := ptr (H.len + 1 + 1)) (i := H.len + 1 + 1) (o := .cells z5 0 true) (by simp only [↓GArg.ev, ↓yG, Nat.reduceEqDiff, ↓reduceIte, ptr]) rfl b2 b1 ?_
    rw [show (GObj.cells z5 0 true).unit = 0 from rfl]
    repeat' (first | (exfalso; omega) | refine zn ?_ | refine zK rfl ?_ | refine zP rfl ?_ | ((first | refine zm ?_ | skip); intro _; intros; simp (disch := first | exact zd | fail) only [↓yS, yT, gresults, gone, ↓reduceIte, Nat.reduceEqDiff, Nat.reduceAdd, Nat.reduceMul, reduceCtorEq, Int.reduceToNat, g28, b3, b4]; first | (rename_i K k; (first | refine yC (k _ _ ?_) | refine zg (k _ ?_)); clear k K) | (rename_i A B C D a b c d; (first | refine zx (a ?_) | refine zy (b ?_) | refine zz (fun hc => c ?_) (fun hc => d ?_) | refine zv (b ?_) | refine zw (a ?_)) <;> clear a b c d A B C D <;> try simp only [yL] at hc)) | refine zA ?_ | refine zB ?_ | refine zF ?_)
    rw [put_put, put_self b1]
    refine Gp_0t (by simp [aims, target, idOf, GArg.ev, Tr.get_set]) fun K' hK' => ?_
    simp (disch := first | exact zd | fail) only [↓yS, yT, ↓reduceIte, Nat.reduceEqDiff, Nat.reduceAdd, Nat.reduceMul, reduceCtorEq, Int.reduceToNat, hA21.m6, c1]
    refine G1_go (hK' _ _ ?_)
    clear hK' K'
    repeat' (first | (exfalso; omega) | refine zn ?_ | refine zK rfl ?_ | refine zP rfl ?_ | ((first | refine zm ?_ | skip); intro _; intros; simp (disch := first | exact zd | fail) only [↓yS, yT, gresults, gone, ↓reduceIte, Nat.reduceEqDiff, Nat.reduceAdd, Nat.reduceMul, reduceCtorEq, Int.reduceToNat, g28, c2, c3]; first | (rename_i K k; (first | refine yC (k _ _ ?_) | refine zg (k _ ?_)); clear k K) | (rename_i A B C D a b c d; (first | refine zx (a ?_) | refine zy (b ?_) | refine zz (fun hc => c ?_) (fun hc => d ?_) | refine zv (b ?_) | refine zw (a ?_)) <;> clear a b c d A B C D <;> try simp only [yL] at hc)) | refine zA ?_ | refine zB ?_ | refine zF ?_)
    show GR g28.rets Post _ (ASF H H21 dv2 m20 l.broke)
    repeat' (first | (exfalso; omega) | refine zn ?_ | refine zK rfl ?_ | refine zP rfl ?_ | ((first | refine zm ?_ | skip); intro _; intros; simp (disch := first | exact zd | fail) only [↓yS, yT, gresults, gone, ↓reduceIte, Nat.reduceEqDiff, Nat.reduceAdd, Nat.reduceMul, reduceCtorEq, Int.reduceToNat, g28, c4, c5]; first | (rename_i K k; (first | refine yC (k _ _ ?_) | refine zg (k _ ?_)); clear k K) | (rename_i A B C D a b c d; (first | refine zx (a ?_) | refine zy (b ?_) | refine zz (fun hc => c ?_) (fun hc => d ?_) | refine zv (b ?_) | refine zw (a ?_)) <;> clear a b c d A B C D <;> try simp only [yL] at hc)) | refine zA ?_ | refine zB ?_ | refine zF ?_)
    exact hPost _ _ (by rw [if_pos hoff]; exact ⟨dv2, rfl, (hO21.asf hA21).rb, c6, fun a ha => .inr ((hO21.asf hA21).young' a ha)⟩)
  | false =>
    repeat' (first | (exfalso; omega) | refine zn ?_ | refine zK rfl ?_ | refine zP rfl ?_ | ((first | refine zm ?_ | skip); intro _; intros; simp (disch := first | exact zd | fail) only [↓yS, yT, gresults, gone, ↓reduceIte, Nat.reduceEqDiff, Nat.reduceAdd, Nat.reduceMul, reduceCtorEq, Int.reduceToNat, g28, w1, w2, hoff]; first | (rename_i K k; (first | refine yC (k _ _ ?_) | refine zg (k _ ?_)); clear k K) | (rename_i A B C D a b c d; (first | refine zx (a ?_) | refine zy (b ?_) | refine zz (fun hc => c ?_) (fun hc => d ?_) | refine zv (b ?_) | refine zw (a ?_)) <;> clear a b c d A B C D <;> try simp only [yL] at hc)) | refine zA ?_ | refine zB ?_ | refine zF ?_)
    generalize H19.put H.len (.cells (rmC dv2 m20) 0 true) = H20 at *
    clear a1 a2 a3 a4 a5 a6 a7 a8
    obtain ⟨a1, a2, a3, a4, a5, a6, a7, a8⟩ := hA20.rds
    have k7 : IntKind.i64.wrap (30 + (p.length : Int)) = 30 + (p.length : Int) := wr_i64 (by omega)
    have k8 : IntKind.i64.wrap ((l.next : Int) + 1) = (l.next : Int) + 1 := wr_i64 (by omega)
    have k9 : IntKind.i64.wrap ((l.next : Int) + 1 - 1) = (l.next : Int) := by rw [wr_i64 (by omega)]; omega
    have hf : fillL z6 [(0, 1, .int .i64 ((1 - l.bank : Nat) : Int)), (1, 1, .int .i64 (30 + (p.length : Int))), (2, 1, .int .i64 ((l.next : Int) + 1)), (3, 1, .int .u64 (((l.gen + 1) % 18446744073709551616 : Nat) : Int))] = some (rlC {l with bank := 1 - l.bank, gen := (l.gen + 1) % 18446744073709551616, fin := 30 + p.length, next := l.next + 1, damaged := false}) := by
      rw [fillL_set _ _ (by simp [flatV_int, z6])]
      simp only [rlC, hr3]
      have e1 : ((30 + p.length : Nat) : Int) = 30 + (p.length : Int) := by omega
      have e2 : ((l.next + 1 : Nat) : Int) = (l.next : Int) + 1 := by omega
      rw [e1, e2]; rfl
    generalize hl2 : ({l with bank := 1 - l.bank, gen := (l.gen + 1) % 18446744073709551616, fin := 30 + p.length, next := l.next + 1, damaged := false} : JL) = l2 at *
    have hn2 : l2.next = l.next + 1 := by rw [← hl2]
    have hs2 : gsetn (rlC l) 0 6 (.agg (rlC l2).toArray) = some (rlC l2) := rl_gset rfl
    repeat' (first | (exfalso; omega) | refine zn ?_ | refine zK rfl ?_ | refine zP rfl ?_ | ((first | refine zm ?_ | skip); intro _; intros; simp (disch := first | exact zd | fail) only [↓yS, yT, gresults, gone, ↓reduceIte, Nat.reduceEqDiff, Nat.reduceAdd, Nat.reduceMul, reduceCtorEq, Int.reduceToNat, g28, a5, a7, a8, k0, k7, k8, hg1, hsl.len, hf]; first | (rename_i K k; (first | refine yC (k _ _ ?_) | refine zg (k _ ?_)); clear k K) | (rename_i A B C D a b c d; (first | refine zx (a ?_) | refine zy (b ?_) | refine zz (fun hc => c ?_) (fun hc => d ?_) | refine zv (b ?_) | refine zw (a ?_)) <;> clear a b c d A B C D <;> try simp only [yL] at hc)) | refine zA ?_ | refine zB ?_ | refine zF ?_)
    repeat' (first | (exfalso; omega) | refine zn ?_ | refine zK rfl ?_ | refine zP rfl ?_ | ((first | refine zm ?_ | skip); intro _; intros; simp (disch := first | exact zd | fail) only [↓yS, yT, gresults, gone, ↓reduceIte, Nat.reduceEqDiff, Nat.reduceAdd, Nat.reduceMul, reduceCtorEq, Int.reduceToNat, g28, hx4, hs2]; first | (rename_i K k; (first | refine yC (k _ _ ?_) | refine zg (k _ ?_)); clear k K) | (rename_i A B C D a b c d; (first | refine zx (a ?_) | refine zy (b ?_) | refine zz (fun hc => c ?_) (fun hc => d ?_) | refine zv (b ?_) | refine zw (a ?_)) <;> clear a b c d A B C D <;> try simp only [yL] at hc)) | refine zA ?_ | refine zB ?_ | refine zF ?_)
    have hA21 := hA20.put4 l2
    have hO21 := hO20.put0 (by omega) hx4 (.cells (rlC l2) 0 true)
    generalize H20.put (H.len + 1) (.cells (rlC l2) 0 true) = H21 at *
    obtain ⟨b1, b2, b3, b4, b5⟩ := hA21.hid
    obtain ⟨d1, d2, d3, d4, d5, d6⟩ := hA21.hid2
    obtain ⟨c1, c2, c3, c4, c5, c6⟩ := hA21.end hd2
    refine GW_hide2 (v := ptr (H.len + 1 + 1)) (w := ptr (H.len + 1 + 1 + 1)) (i := H.len + 1 + 1) (j := H.len + 1 + 1 + 1) (o := .cells z5 0 true) (p := .cells z6 0 true) (by simp only [↓GArg.ev, ↓yG, Nat.reduceEqDiff, ↓reduceIte, ptr]) rfl b2 b1 (by simp only [↓GArg.ev, ↓yG, Nat.reduceEqDiff, ↓reduceIte, ptr]) rfl d2 d1 (by omega) ?_
    rw [show (GObj.cells z5 0 true).unit = 0 from rfl, show (GObj.cells z6 0 true).unit = 0 from rfl]
    rw [hn2] at d5
    have d5 : ((H21.put (H.len + 1 + 1) (.dead 0)).put (H.len + 1 + 1 + 1) (.dead 0)).rd (H.len + 1) 2 = some (.int .i64 ((l.next : Int) + 1)) := d5
    repeat' (first | (exfalso; omega) | refine zn ?_ | refine zK rfl ?_ | refine zP rfl ?_ | ((first | refine zm ?_ | skip); intro _; intros; simp (disch := first | exact zd | fail) only [↓yS, yT, gresults, gone, ↓reduceIte, Nat.reduceEqDiff, Nat.reduceAdd, Nat.reduceMul, reduceCtorEq, Int.reduceToNat, g28, d3, d4, d5, k9]; first | (rename_i K k; (first | refine yC (k _ _ ?_) | refine zg (k _ ?_)); clear k K) | (rename_i A B C D a b c d; (first | refine zx (a ?_) | refine zy (b ?_) | refine zz (fun hc => c ?_) (fun hc => d ?_) | refine zv (b ?_) | refine zw (a ?_)) <;> clear a b c d A B C D <;> try simp only [yL] at hc)) | refine zA ?_ | refine zB ?_ | refine zF ?_)
    rw [d6]
    refine Gp_0t (by simp [aims, target, idOf, GArg.ev, Tr.get_set]) fun K' hK' => ?_
    simp (disch := first | exact zd | fail) only [↓yS, yT, ↓reduceIte, Nat.reduceEqDiff, Nat.reduceAdd, Nat.reduceMul, reduceCtorEq, Int.reduceToNat, hA21.m6, c1]
    refine G1_go (hK' _ _ ?_)
    clear hK' K'
    refine Gp_0t (by simp [aims, target, idOf, GArg.ev, Tr.get_set]) fun K' hK' => ?_
    simp (disch := first | exact zd | fail) only [↓yS, yT, ↓reduceIte, Nat.reduceEqDiff, Nat.reduceAdd, Nat.reduceMul, reduceCtorEq, Int.reduceToNat, c2, c3]
    refine G1_go (hK' _ _ ?_)
    clear hK' K'
    repeat' (first | (exfalso; omega) | refine zn ?_ | refine zK rfl ?_ | refine zP rfl ?_ | ((first | refine zm ?_ | skip); intro _; intros; simp (disch := first | exact zd | fail) only [↓yS, yT, gresults, gone, ↓reduceIte, Nat.reduceEqDiff, Nat.reduceAdd, Nat.reduceMul, reduceCtorEq, Int.reduceToNat, g28]; first | (rename_i K k; (first | refine yC (k _ _ ?_) | refine zg (k _ ?_)); clear k K) | (rename_i A B C D a b c d; (first | refine zx (a ?_) | refine zy (b ?_) | refine zz (fun hc => c ?_) (fun hc => d ?_) | refine zv (b ?_) | refine zw (a ?_)) <;> clear a b c d A B C D <;> try simp only [yL] at hc)) | refine zA ?_ | refine zB ?_ | refine zF ?_)
    show GR g28.rets Post _ (ASF H H21 dv2 m20 l2)
    repeat' (first | (exfalso; omega) | refine zn ?_ | refine zK rfl ?_ | refine zP rfl ?_ | ((first | refine zm ?_ | skip); intro _; intros; simp (disch := first | exact zd | fail) only [↓yS, yT, gresults, gone, ↓reduceIte, Nat.reduceEqDiff, Nat.reduceAdd, Nat.reduceMul, reduceCtorEq, Int.reduceToNat, g28, c4, c5]; first | (rename_i K k; (first | refine yC (k _ _ ?_) | refine zg (k _ ?_)); clear k K) | (rename_i A B C D a b c d; (first | refine zx (a ?_) | refine zy (b ?_) | refine zz (fun hc => c ?_) (fun hc => d ?_) | refine zv (b ?_) | refine zw (a ?_)) <;> clear a b c d A B C D <;> try simp only [yL] at hc)) | refine zA ?_ | refine zB ?_ | refine zF ?_)
    exact hPost _ _ (by rw [if_neg (by rw [hoff]; decide)]; exact ⟨dv2, rfl, (hO21.asf hA21).rb, c6, fun a ha => .inr ((hO21.asf hA21).young' a ha)⟩)
end Go.Gh
