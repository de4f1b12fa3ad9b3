/-
  The journal, walked: read, Open.
-/
import Derived.Test.YtbficpmoppailaaJnW3
namespace Go.Gh
set_option linter.unusedSimpArgs false
set_option linter.unusedVariables false
set_option maxHeartbeats 4000000
open Go.RowKit
set_option maxRecDepth 4000

theorem u8_lit {x : UInt8} {c : Nat} (hc : c < 256) : ((x.toNat : Int) = (c : Int)) ↔ x = UInt8.ofNat c := by
  constructor
  · intro h
    rw [← UInt8.toNat_inj, UInt8.toNat_ofNat']
    omega
  · rintro rfl
    rw [UInt8.toNat_ofNat']; omega
theorem sub_length {l : List UInt8} {a b : Nat} (h : b ≤ l.length) : (sub l a b).length = b - a := by
  simp only [sub, List.length_take, List.length_drop]; omega
theorem OB.suf {H0 H : GHeap} {v : Value} {l : List UInt8} (h : OB H0 H v l) {k : IntKind} {a : Nat} (ha : a ≤ l.length) (hl : 0 < l.length) :
    ∃ q n gc, gslice (.sl 1) H v (some (.int k a)) none none = some (.slice (some ⟨q, a, none⟩) n gc) ∧ RB H (.slice (some ⟨q, a, none⟩) n gc) (l.drop a) ∧ H.mine q = some (u8s l, 257) ∧ H0.len ≤ q := by
  obtain ⟨v', e1, e2⟩ := h.rb.suf (k := k) (a := a) (by omega) (by omega)
  rw [Int.toNat_natCast] at e2
  rcases h.own.at_ with ⟨_, e⟩ | ⟨q, gc, rfl, hg, hm⟩
  · omega
  have hy : H0.len ≤ q := by
    rcases h.young with e | e
    · cases e
    · exact e
  have hu : H.unit q = some 257 := by unfold GHeap.unit; rw [(mine_obj hm).2]; rfl
  have e3 : ∃ n gc', gslice (.sl 1) H (.slice (some ⟨q, 0, none⟩) l.length gc) (some (.int k a)) none none = some (.slice (some ⟨q, a, none⟩) n gc') := by
    have hb : gbounds l.length (if gc = 0 then l.length else gc - 1) (some (.int k a)) none = some (a, l.length) := by
      simp only [gbounds]
      rw [if_pos (by omega), Int.toNat_natCast]
    simp only [gslice, hu]
    rw [if_pos (.inr rfl), hb]
    simp
  obtain ⟨n, gc', e3⟩ := e3
  rw [e3] at e1
  cases e1
  exact ⟨q, n, gc', e3, e2, hm, hy⟩
/-- a record that was read -/
def recV (r : JR) (dv : Value) : Value := .agg #[.int .i64 (r.num : Int), .bool r.state, dv]
def ReadOut (H H' : GHeap) (r : Value) : Option JR → Prop
  | some x => Same H H' ∧ ∃ q n gc full, r = .tuple #[recV x (.slice (some ⟨q, 12, none⟩) n gc), .bool true] ∧ RB H' (.slice (some ⟨q, 12, none⟩) n gc) x.data ∧ H.len ≤ q ∧ H'.mine q = some (u8s full, 257) ∧ full.drop 12 = x.data ∧ 12 ≤ full.length
  | none => Same H H' ∧ r = .tuple #[.agg #[.int .i64 0, .bool false, .slice none 0 0], .bool false]
set_option maxHeartbeats 1000000 in
theorem read_ok {H : GHeap} (hw : H.wf) {v : Value} {b : List UInt8} (hb : RB H v b) (hl : b.length < 70368744177664) {o last : Nat} (ho : o < b.length) (hla : last < 4611686018427387904) :
    ∃ r H', gev G 39 [v, .int .i64 o, .int .i64 last] H = some (r, H') ∧ ReadOut H H' r (readB b o last) := by
  refine gev_GW (f := 39) rfl fun Post hPost => ?_
  have hsl := hb.isSl
  have hlim := hw.1
  have hS1 := (Same.refl hw).add (.cells [.int .i64 0, .bool false, .slice none 0 0] 0 true)
  have hbd : ∀ k : Nat, k < b.length → H.rd (blk v) (ofs v + k) = some (.int .u8 b[k]!.toNat) := fun k hk => hb.read hk
  have e5 : ((b[o]!.toNat : Int) = 165) ↔ b[o]! = 165 := u8_lit (c := 165) (by decide)
  have e6 : ((b[o]!.toNat : Int) = 166) ↔ b[o]! = 166 := u8_lit (c := 166) (by decide)
  simp only [frameOf, Nat.reduceAdd]
  generalize hx : (b[o]!.toNat : Int) = x at *
  have hrd : H.rd (blk v) (ofs v + o) = some (.int .u8 x) := by rw [hbd o ho, hx]
  have hltb := hb.lt (by omega)
  have rp3 : ∀ (H : GHeap) (i : Nat) (a b c : Value) (u : Nat), (H.put i (.cells [a, b, c] u true)).rdn i 0 3 = some (.agg #[a, b, c]) := fun H i a b c u => rdn_put_all rfl
  have hnone : readB b o last = none → ∀ H1, Same H H1 → Post (.tuple #[.agg #[.int .i64 0, .bool false, .slice none 0 0], .bool false]) H1 := fun e H1 h => hPost _ _ (by rw [e]; exact ⟨h, rfl⟩)
  by_cases hA : (b[o]! ≠ 165 ∧ (b[o]! ≠ 166 ∨ last ≠ 0)) ∨ b.length ≤ o + 17
  · have hno : readB b o last = none := by rw [readB, if_pos hA]
    have hA' : (¬ x = 165 ∧ (¬ x = 166 ∨ ¬ last = 0)) ∨ b.length ≤ o + 17 := by rw [e5, e6]; exact hA
    repeat' (first | (exfalso; omega) | refine zn ?_ | refine zK rfl ?_ | refine zP rfl ?_ | ((first | refine zm ?_ | skip); intro _; intros; simp (disch := first | exact zd | fail) only [↓yS, yT, gresults, gone, ↓reduceIte, Nat.reduceEqDiff, Nat.reduceAdd, Nat.reduceMul, reduceCtorEq, Int.reduceToNat, g39, hsl.len, hsl.ia, hrd, rp3]; first | (rename_i K k; (first | refine yC (k _ _ ?_) | refine zg (k _ ?_)); clear k K) | (rename_i A B C D a b c d; (first | refine zx (a ?_) | refine zy (b ?_) | refine zz (fun hc => c ?_) (fun hc => d ?_) | refine zv (b ?_) | refine zw (a ?_)) <;> clear a b c d A B C D <;> try simp only [yL] at hc)) | refine zA ?_ | refine zB ?_ | refine zF ?_)
    all_goals exact hnone hno _ (hS1.put (Nat.le_refl _) (Nat.lt_succ_self _) _)
  have hA' : ¬ ((¬ x = 165 ∧ (¬ x = 166 ∨ ¬ last = 0)) ∨ b.length ≤ o + 17) := by rw [e5, e6]; exact hA
  have hlen : o + 17 < b.length := by omega
  obtain ⟨v4, hs4, hV4⟩ := (hb.same_ hw hS1).slice (k := .i64) (a := (o : Int) + 1) (b := (o : Int) + 5) (by omega) (by omega) (by omega)
  have hV4 : RB (H.add (some (.cells [.int .i64 0, .bool false, .slice none 0 0] 0 true))) v4 (sub b (o + 1) (o + 5)) := by
    rw [show ((o : Int) + 1).toNat = o + 1 by omega, show ((o : Int) + 5).toNat = o + 5 by omega] at hV4; exact hV4
  have hl4 : (sub b (o + 1) (o + 5)).length = 4 := by rw [sub_length (by omega)]; omega
  have hn32 : leN (sub b (o + 1) (o + 5)) < 4294967296 := by have := leN_lt (sub b (o + 1) (o + 5)); rw [hl4] at this; exact this
  have hrb : readB b o last = if b.length - o - 17 ≤ leN (sub b (o + 1) (o + 5)) then none
      else match openB (sub b (o + 1) (o + 17 + leN (sub b (o + 1) (o + 5)))) with
        | none => none
        | some p =>
          if last = 0 ∧ (leN (sub p 4 12) < 1 ∨ 1099511627776 < leN (sub p 4 12)) ∨ last ≠ 0 ∧ leN (sub p 4 12) ≠ last + 1 then none
          else some ⟨leN (sub p 4 12), b[o]! == 166, p.drop 12⟩ := by rw [readB, if_neg hA]; rfl
  have hnum := num_ok hV4 (by omega)
  generalize leN (sub b (o + 1) (o + 5)) = n at *
  have hw64 : IntKind.u64.wrap ((b.length : Int) - o - 17) = ((b.length - o - 17 : Nat) : Int) := by rw [wrap_u64i (by omega) (by omega)]; omega
  have hm1 : (H.add (some (.cells [.int .i64 0, .bool false, .slice none 0 0] 0 true))).mine H.len = some ([.int .i64 0, .bool false, .slice none 0 0], 0) := mine_add_eq rfl hlim
  repeat' (first | (exfalso; omega) | refine zn ?_ | refine zK rfl ?_ | refine zP rfl ?_ | ((first | refine zm ?_ | skip); intro _; intros; simp (disch := first | exact zd | fail) only [↓yS, yT, gresults, gone, ↓reduceIte, Nat.reduceEqDiff, Nat.reduceAdd, Nat.reduceMul, reduceCtorEq, Int.reduceToNat, g39, hsl.len, hsl.ia, hrd, rp3, hs4]; first | (rename_i K k; (first | refine yC (k _ _ ?_) | refine zg (k _ ?_)); clear k K) | (rename_i A B C D a b c d; (first | refine zx (a ?_) | refine zy (b ?_) | refine zz (fun hc => c ?_) (fun hc => d ?_) | refine zv (b ?_) | refine zw (a ?_)) <;> clear a b c d A B C D <;> try simp only [yL] at hc)) | refine zA ?_ | refine zB ?_ | refine zF ?_)
  all_goals
    refine Gw_s fun K' hK' => G1_call (by simp only [gtarget, ↓GArg.ev, ↓evs, ↓Tr.get_set, Nat.reduceEqDiff, if_true, if_false, ↓reduceIte, Option.map_some]; rfl) (hnum) fun r2 H2 hq => hK' _ _ ?_
    obtain ⟨rfl, rfl⟩ := hq
    by_cases hB : b.length - o - 17 ≤ n
    · rw [if_pos hB] at hrb
      repeat' (first | (exfalso; omega) | refine zn ?_ | refine zK rfl ?_ | refine zP rfl ?_ | ((first | refine zm ?_ | skip); intro _; intros; simp (disch := first | exact zd | fail) only [↓yS, yT, gresults, gone, ↓reduceIte, Nat.reduceEqDiff, Nat.reduceAdd, Nat.reduceMul, reduceCtorEq, Int.reduceToNat, g39, hsl.len, hsl.ia, hrd, rp3, hw64]; first | (rename_i K k; (first | refine yC (k _ _ ?_) | refine zg (k _ ?_)); clear k K) | (rename_i A B C D a b c d; (first | refine zx (a ?_) | refine zy (b ?_) | refine zz (fun hc => c ?_) (fun hc => d ?_) | refine zv (b ?_) | refine zw (a ?_)) <;> clear a b c d A B C D <;> try simp only [yL] at hc)) | refine zA ?_ | refine zB ?_ | refine zF ?_)
      all_goals exact hnone hrb _ (hS1.put (Nat.le_refl _) (Nat.lt_succ_self _) _)
    rw [if_neg hB] at hrb
    obtain ⟨v5, hs5, hV5⟩ := (hb.same_ hw hS1).slice (k := .i64) (a := (o : Int) + 1) (b := (o : Int) + 17 + n) (by omega) (by omega) (by omega)
    have hV5 : RB (H.add (some (.cells [.int .i64 0, .bool false, .slice none 0 0] 0 true))) v5 (sub b (o + 1) (o + 17 + n)) := by
      rw [show ((o : Int) + 1).toNat = o + 1 by omega, show ((o : Int) + 17 + n).toNat = o + 17 + n by omega] at hV5; exact hV5
    have hl5 : (sub b (o + 1) (o + 17 + n)).length = 16 + n := by rw [sub_length (by omega)]; omega
    repeat' (first | (exfalso; omega) | refine zn ?_ | refine zK rfl ?_ | refine zP rfl ?_ | ((first | refine zm ?_ | skip); intro _; intros; simp (disch := first | exact zd | fail) only [↓yS, yT, gresults, gone, ↓reduceIte, Nat.reduceEqDiff, Nat.reduceAdd, Nat.reduceMul, reduceCtorEq, Int.reduceToNat, g39, hsl.len, hsl.ia, hrd, rp3, hw64, hs5]; first | (rename_i K k; (first | refine yC (k _ _ ?_) | refine zg (k _ ?_)); clear k K) | (rename_i A B C D a b c d; (first | refine zx (a ?_) | refine zy (b ?_) | refine zz (fun hc => c ?_) (fun hc => d ?_) | refine zv (b ?_) | refine zw (a ?_)) <;> clear a b c d A B C D <;> try simp only [yL] at hc)) | refine zA ?_ | refine zB ?_ | refine zF ?_)
    refine Gw_s fun K' hK' => G1_call (by simp only [gtarget, ↓GArg.ev, ↓evs, ↓Tr.get_set, Nat.reduceEqDiff, if_true, if_false, ↓reduceIte, Option.map_some]; rfl) (open_ok hS1.wf hV5 (by omega)) fun r3 H3 hq => hK' _ _ ?_
    cases hop : openB (sub b (o + 1) (o + 17 + n)) with
    | none =>
      rw [hop] at hq hrb
      obtain ⟨hS3, e, hne, rfl⟩ := hq
      have hm3 := (hS3.mine (Nat.lt_succ_self H.len)).trans hm1
      repeat' (first | (exfalso; omega) | refine zn ?_ | refine zK rfl ?_ | refine zP rfl ?_ | ((first | refine zm ?_ | skip); intro _; intros; simp (disch := first | exact zd | fail) only [↓yS, yT, gresults, gone, ↓reduceIte, Nat.reduceEqDiff, Nat.reduceAdd, Nat.reduceMul, reduceCtorEq, Int.reduceToNat, g39, hsl.len, hsl.ia, rp3, hm3]; first | (rename_i K k; (first | refine yC (k _ _ ?_) | refine zg (k _ ?_)); clear k K) | (rename_i A B C D a b c d; (first | refine zx (a ?_) | refine zy (b ?_) | refine zz (fun hc => c ?_) (fun hc => d ?_) | refine zv (b ?_) | refine zw (a ?_)) <;> clear a b c d A B C D <;> try simp only [yL] at hc)) | refine zA ?_ | refine zB ?_ | refine zF ?_)
      exact hnone hrb _ ((hS1.trans hS3).put (Nat.le_refl _) (Nat.lt_of_lt_of_le (Nat.lt_succ_self _) hS3.len) _)
    | some p =>
      rw [hop] at hq hrb
      dsimp only at hrb
      obtain ⟨v6, rfl, hO⟩ := hq
      have hpl := openB_length hop
      have hlp : 12 ≤ p.length := by omega
      have hm3 := (hO.same.mine (Nat.lt_succ_self H.len)).trans hm1
      obtain ⟨v7, hs7, hV7⟩ := hO.rb.slice (k := .i64) (a := 4) (b := 12) (by omega) (by omega) (by omega)
      have hV7 : RB H3 v7 (sub p 4 12) := hV7
      have hl7 : (sub p 4 12).length = 8 := by rw [sub_length (by omega)]
      have hn64 : leN (sub p 4 12) < 18446744073709551616 := by have := leN_lt (sub p 4 12); rw [hl7] at this; exact this
      repeat' (first | (exfalso; omega) | refine zn ?_ | refine zK rfl ?_ | refine zP rfl ?_ | ((first | refine zm ?_ | skip); intro _; intros; simp (disch := first | exact zd | fail) only [↓yS, yT, gresults, gone, ↓reduceIte, Nat.reduceEqDiff, Nat.reduceAdd, Nat.reduceMul, reduceCtorEq, Int.reduceToNat, g39, hsl.len, hsl.ia, rp3, hs7]; first | (rename_i K k; (first | refine yC (k _ _ ?_) | refine zg (k _ ?_)); clear k K) | (rename_i A B C D a b c d; (first | refine zx (a ?_) | refine zy (b ?_) | refine zz (fun hc => c ?_) (fun hc => d ?_) | refine zv (b ?_) | refine zw (a ?_)) <;> clear a b c d A B C D <;> try simp only [yL] at hc)) | refine zA ?_ | refine zB ?_ | refine zF ?_)
      refine Gw_s fun K' hK' => G1_call (by simp only [gtarget, ↓GArg.ev, ↓evs, ↓Tr.get_set, Nat.reduceEqDiff, if_true, if_false, ↓reduceIte, Option.map_some]; rfl) (num_ok hV7 (by omega)) fun r8 H8 hq => hK' _ _ ?_
      obtain ⟨rfl, rfl⟩ := hq
      generalize leN (sub p 4 12) = k at *
      have hw1 : IntKind.u64.wrap (last : Int) = (last : Int) := wrap_u64n (by omega)
      have hw2 : IntKind.u64.wrap ((last : Int) + 1) = (last : Int) + 1 := wrap_u64i (by omega) (by omega)
      have hrd3 : H8.rd (blk v) (ofs v + o) = some (.int .u8 x) := by rw [(hS1.trans hO.same).rd hltb]; exact hrd
      by_cases hC : last = 0 ∧ (k < 1 ∨ 1099511627776 < k) ∨ last ≠ 0 ∧ k ≠ last + 1
      · rw [if_pos hC] at hrb
        repeat' (first | (exfalso; omega) | refine zn ?_ | refine zK rfl ?_ | refine zP rfl ?_ | ((first | refine zm ?_ | skip); intro _; intros; simp (disch := first | exact zd | fail) only [↓yS, yT, gresults, gone, ↓reduceIte, Nat.reduceEqDiff, Nat.reduceAdd, Nat.reduceMul, reduceCtorEq, Int.reduceToNat, g39, hsl.len, hsl.ia, rp3, hm3, hw1, hw2]; first | (rename_i K k; (first | refine yC (k _ _ ?_) | refine zg (k _ ?_)); clear k K) | (rename_i A B C D a b c d; (first | refine zx (a ?_) | refine zy (b ?_) | refine zz (fun hc => c ?_) (fun hc => d ?_) | refine zv (b ?_) | refine zw (a ?_)) <;> clear a b c d A B C D <;> try simp only [yL] at hc)) | refine zA ?_ | refine zB ?_ | refine zF ?_)
        all_goals exact hnone hrb _ ((hS1.trans hO.same).put (Nat.le_refl _) (Nat.lt_of_lt_of_le (Nat.lt_succ_self _) hO.same.len) _)
      rw [if_neg hC] at hrb
      obtain ⟨q, n', gc', hs8, hV8, hmq, hyq⟩ := hO.suf (k := .i64) (a := 12) hlp (by omega)
      have hs8 : gslice (.sl 1) H8 v6 (some (.int .i64 12)) none none = some (.slice (some ⟨q, 12, none⟩) n' gc') := hs8
      have hqn : q ≠ H.len := by
        have : H.len + 1 ≤ q := hyq
        omega
      have hlt8 := Nat.lt_of_lt_of_le (Nat.lt_succ_self _) hO.same.len
      have hst : (decide (x = 166)) = (b[o]! == 166) := by
        by_cases h : b[o]! = 166
        · rw [decide_eq_true (e6.2 h), h]; rfl
        · rw [decide_eq_false (fun hh => h (e6.1 hh))]
          exact (beq_eq_false_iff_ne.2 h).symm
      repeat' (first | (exfalso; omega) | refine zn ?_ | refine zK rfl ?_ | refine zP rfl ?_ | ((first | refine zm ?_ | skip); intro _; intros; simp (disch := first | exact zd | fail) only [↓yS, yT, gresults, gone, ↓reduceIte, Nat.reduceEqDiff, Nat.reduceAdd, Nat.reduceMul, reduceCtorEq, Int.reduceToNat, g39, hsl.len, hsl.ia, rp3, hm3, hw1, hw2, hrd3, hs8]; first | (rename_i K k; (first | refine yC (k _ _ ?_) | refine zg (k _ ?_)); clear k K) | (rename_i A B C D a b c d; (first | refine zx (a ?_) | refine zy (b ?_) | refine zz (fun hc => c ?_) (fun hc => d ?_) | refine zv (b ?_) | refine zw (a ?_)) <;> clear a b c d A B C D <;> try simp only [yL] at hc)) | refine zA ?_ | refine zB ?_ | refine zF ?_)
      all_goals
        refine hPost _ _ ?_
        rw [hrb]
        have hfin := (hS1.trans hO.same).put (Nat.le_refl _) hlt8 (.cells [.int .i64 (k : Int), .bool (decide (x = 166)), .slice (some ⟨q, 12, none⟩) n' gc'] 0 true)
        refine ⟨hfin, q, n', gc', p, ?_, ?_, by have : H.len + 1 ≤ q := hyq; omega, ?_, rfl, hlp⟩
        · rw [hst]; rfl
        · refine hV8.but hO.same.wf ((But.refl (S := fun z => z = H.len) hO.same.wf).put rfl hlt8 _) ?_
          intro a ha
          simp only [idOf, List.mem_singleton] at ha
          subst ha
          exact hqn
        · rw [mine_put_ne (Ne.symm hqn)]; exact hmq
end Go.Gh
