/-
  The reference's journal, walked: banks, generations, records.
-/
import Derived.Test.YtbficpmoppailaaJnR1
namespace Go.Gh
set_option linter.unusedSimpArgs false
set_option linter.unusedVariables false
set_option maxHeartbeats 4000000
open Go.RowKit
set_option maxRecDepth 4000

theorem rm_all {dv : Value} {m : JM} (h : flatV dv = true) : (rmV dv m).cells.all flatV = true := by
  rw [← Array.all_toList]
  show ([.int .i64 (m.size : Int), dv, .bool m.armed, .int .i64 m.left, .bool m.off] : List Value).all flatV = true
  simp only [List.all_cons, List.all_nil, h]; rfl
theorem rm_list {dv : Value} {m : JM} : (rmV dv m).cells.toList = rmC dv m := rfl
/-- a memory of the reference that can be read -/
structure RM (H : GHeap) (dv : Value) (m : JM) : Prop where
  rb : RB H dv m.data
  big : m.data.length < 70368744177664
  low : 128 ≤ m.data.length
theorem rbank_ok {H : GHeap} (hw : H.wf) {dv : Value} {m : JM} (h : RM H dv m) {b : Nat} (hb : b < 2) : ∃ r H', gev G 47 [rmV dv m, .int .i64 b] H = some (r, H') ∧ (RB H' r (bankB m.data b) ∧ (∀ a ∈ idOf r, a ∈ idOf dv) ∧ Same H H') := by
  refine gev_GW (f := 47) rfl fun Post hPost => ?_
  have hbig := h.big
  have hsz : m.size = m.data.length / 2 := rfl
  have hm1 : b * m.size ≤ m.data.length ∧ (b + 1) * m.size ≤ m.data.length ∧ b * m.size ≤ (b + 1) * m.size := by
    rcases (show b = 0 ∨ b = 1 by omega) with rfl | rfl <;> omega
  have hc1 : ((b * m.size : Nat) : Int) = (b : Int) * m.size := Int.natCast_mul _ _
  have hc2 : (((b + 1) * m.size : Nat) : Int) = ((b : Int) + 1) * m.size := by rw [Int.natCast_mul]; rfl
  have hw2 : IntKind.i64.wrap (((b : Int) + 1) * m.size) = ((b : Int) + 1) * m.size := by rw [← hc2, wr_i64 (by omega)]
  have hS1 := (Same.refl hw).add (.cells (rmC dv m) 0 true)
  have hr : ∀ o, (H.add (some (.cells (rmC dv m) 0 true))).rd H.len o = (rmC dv m)[o]? := fun o => rd_add_eq rfl
  have hr0 : (H.add (some (.cells (rmC dv m) 0 true))).rd H.len 0 = some (.int .i64 (m.size : Int)) := hr 0
  have hr1 : (H.add (some (.cells (rmC dv m) 0 true))).rd H.len 1 = some dv := hr 1
  have hfl := rm_all (m := m) h.rb.flat
  have hli := rm_list (dv := dv) (m := m)
  obtain ⟨v', e1, e2⟩ := (h.rb.same_ hw hS1).slice (k := .i64) (a := ((b * m.size : Nat) : Int)) (b := (((b + 1) * m.size : Nat) : Int)) (by omega) (by omega) (by omega)
  rw [Int.toNat_natCast, Int.toNat_natCast] at e2
  rw [hc1, hc2] at e1
  simp only [frameOf, Nat.reduceAdd]
  repeat' (first | (exfalso; omega) | refine zn ?_ | refine zK rfl ?_ | refine zP rfl ?_ | ((first | refine zm ?_ | skip); intro _; intros; simp (disch := first | exact zd | fail) only [↓yS, yT, gresults, gone, ↓reduceIte, Nat.reduceEqDiff, Nat.reduceAdd, Nat.reduceMul, reduceCtorEq, Int.reduceToNat, g47, hfl, hli]; first | (rename_i K k; (first | refine yC (k _ _ ?_) | refine zg (k _ ?_)); clear k K) | (rename_i A B C D a b c d; (first | refine zx (a ?_) | refine zy (b ?_) | refine zz (fun hc => c ?_) (fun hc => d ?_) | refine zv (b ?_) | refine zw (a ?_)) <;> clear a b c d A B C D <;> try simp only [yL] at hc)) | refine zA ?_ | refine zB ?_ | refine zF ?_)
  repeat' (first | (exfalso; omega) | refine zn ?_ | refine zK rfl ?_ | refine zP rfl ?_ | ((first | refine zm ?_ | skip); intro _; intros; simp (disch := first | exact zd | fail) only [↓yS, yT, gresults, gone, ↓reduceIte, Nat.reduceEqDiff, Nat.reduceAdd, Nat.reduceMul, reduceCtorEq, Int.reduceToNat, g47, hr0, hr1, hw2, e1]; first | (rename_i K k; (first | refine yC (k _ _ ?_) | refine zg (k _ ?_)); clear k K) | (rename_i A B C D a b c d; (first | refine zx (a ?_) | refine zy (b ?_) | refine zz (fun hc => c ?_) (fun hc => d ?_) | refine zv (b ?_) | refine zw (a ?_)) <;> clear a b c d A B C D <;> try simp only [yL] at hc)) | refine zA ?_ | refine zB ?_ | refine zF ?_)
  exact hPost _ _ ⟨e2, gslice_ids e1, hS1⟩
theorem rgen_ok {H : GHeap} (hw : H.wf) {v : Value} {B : List UInt8} (hB : RB H v B) (hbl : 64 ≤ B.length) (hbig : B.length < 70368744177664) : ∃ r H', gev G 46 [v] H = some (r, H') ∧ (r = genV (genB B) ∧ Same H H') := by
  refine gev_GW (f := 46) rfl fun Post hPost => ?_
  have hsl := hB.isSl
  obtain ⟨v2, e1, e2⟩ := hB.slice (k := .i64) (a := 1) (b := 13) (by omega) (by omega) (by omega)
  have e2 : RB H v2 (sub B 1 13) := e2
  have hlen : (sub B 1 13).length = 12 := by simp [sub]; omega
  have h0 : ∀ H', Same H H' → H'.rd (blk v) (ofs v) = some (.int .u8 B[0]!.toNat) := fun H' hs => by
    rw [hs.rd (hB.lt (by omega))]; exact hB.read (k := 0) (by omega)
  have hia : gia none 1 v (.int .i64 0) = some (.pointer (some ⟨blk v, ofs v, none⟩)) := by rw [hsl.ia (by omega) (by omega)]; rfl
  simp only [frameOf, Nat.reduceAdd]
  repeat' (first | (exfalso; omega) | refine zn ?_ | refine zK rfl ?_ | refine zP rfl ?_ | ((first | refine zm ?_ | skip); intro _; intros; simp (disch := first | exact zd | fail) only [↓yS, yT, gresults, gone, ↓reduceIte, Nat.reduceEqDiff, Nat.reduceAdd, Nat.reduceMul, reduceCtorEq, Int.reduceToNat, g46, e1]; first | (rename_i K k; (first | refine yC (k _ _ ?_) | refine zg (k _ ?_)); clear k K) | (rename_i A B C D a b c d; (first | refine zx (a ?_) | refine zy (b ?_) | refine zz (fun hc => c ?_) (fun hc => d ?_) | refine zv (b ?_) | refine zw (a ?_)) <;> clear a b c d A B C D <;> try simp only [yL] at hc)) | refine zA ?_ | refine zB ?_ | refine zF ?_)
  refine Gw_s fun K' hK' => G1_call (by simp only [gtarget, ↓GArg.ev, ↓evs, ↓Tr.get_set, Nat.reduceEqDiff, if_true, if_false, ↓reduceIte, Option.map_some]; rfl) (ropen_ok hw e2 (by omega)) fun r2 H2 hq => hK' _ _ ?_
  by_cases hb0 : (B[0]!.toNat : Int) = 183
  · have hg : genB B = (openB (sub B 1 13)).map leN := by
      rw [genB, if_neg]
      intro hn; apply hn
      rw [← UInt8.toNat_inj]; exact_mod_cast hb0
    cases ho : openB (sub B 1 13) with
    | none =>
      rw [ho] at hq hg
      obtain ⟨hS, e, hne, rfl⟩ := hq
      have hz := h0 _ hS
      rw [hb0] at hz
      repeat' (first | (exfalso; omega) | refine zn ?_ | refine zK rfl ?_ | refine zP rfl ?_ | ((first | refine zm ?_ | skip); intro _; intros; simp (disch := first | exact zd | fail) only [↓yS, yT, gresults, gone, ↓reduceIte, Nat.reduceEqDiff, Nat.reduceAdd, Nat.reduceMul, reduceCtorEq, Int.reduceToNat, g46, hia, hz]; first | (rename_i K k; (first | refine yC (k _ _ ?_) | refine zg (k _ ?_)); clear k K) | (rename_i A B C D a b c d; (first | refine zx (a ?_) | refine zy (b ?_) | refine zz (fun hc => c ?_) (fun hc => d ?_) | refine zv (b ?_) | refine zw (a ?_)) <;> clear a b c d A B C D <;> try simp only [yL] at hc)) | refine zA ?_ | refine zB ?_ | refine zF ?_)
      refine hPost _ _ ⟨?_, hS⟩
      rw [hg]; rfl
    | some p =>
      rw [ho] at hq hg
      obtain ⟨v3, rfl, hO⟩ := hq
      have hl2 := openB_length ho
      have hz := h0 _ hO.same
      rw [hb0] at hz
      repeat' (first | (exfalso; omega) | refine zn ?_ | refine zK rfl ?_ | refine zP rfl ?_ | ((first | refine zm ?_ | skip); intro _; intros; simp (disch := first | exact zd | fail) only [↓yS, yT, gresults, gone, ↓reduceIte, Nat.reduceEqDiff, Nat.reduceAdd, Nat.reduceMul, reduceCtorEq, Int.reduceToNat, g46, hia, hz]; first | (rename_i K k; (first | refine yC (k _ _ ?_) | refine zg (k _ ?_)); clear k K) | (rename_i A B C D a b c d; (first | refine zx (a ?_) | refine zy (b ?_) | refine zz (fun hc => c ?_) (fun hc => d ?_) | refine zv (b ?_) | refine zw (a ?_)) <;> clear a b c d A B C D <;> try simp only [yL] at hc)) | refine zA ?_ | refine zB ?_ | refine zF ?_)
      refine Gw_s fun K' hK' => G1_call (by simp only [gtarget, ↓GArg.ev, ↓evs, ↓Tr.get_set, Nat.reduceEqDiff, if_true, if_false, ↓reduceIte, Option.map_some]; rfl) (rnum_ok hO.rb (by omega)) fun r3 H3 hq => hK' _ _ ?_
      obtain ⟨rfl, rfl⟩ := hq
      repeat' (first | (exfalso; omega) | refine zn ?_ | refine zK rfl ?_ | refine zP rfl ?_ | ((first | refine zm ?_ | skip); intro _; intros; simp (disch := first | exact zd | fail) only [↓yS, yT, gresults, gone, ↓reduceIte, Nat.reduceEqDiff, Nat.reduceAdd, Nat.reduceMul, reduceCtorEq, Int.reduceToNat, g46]; first | (rename_i K k; (first | refine yC (k _ _ ?_) | refine zg (k _ ?_)); clear k K) | (rename_i A B C D a b c d; (first | refine zx (a ?_) | refine zy (b ?_) | refine zz (fun hc => c ?_) (fun hc => d ?_) | refine zv (b ?_) | refine zw (a ?_)) <;> clear a b c d A B C D <;> try simp only [yL] at hc)) | refine zA ?_ | refine zB ?_ | refine zF ?_)
      refine hPost _ _ ⟨?_, hO.same⟩
      rw [hg]; rfl
  · have hg : genB B = none := by
      rw [genB, if_pos]
      intro he; rw [he] at hb0; exact hb0 rfl
    have hS : Same H H2 := by
      cases ho : openB (sub B 1 13) with
      | none => rw [ho] at hq; exact hq.1
      | some p => rw [ho] at hq; obtain ⟨v3, _, hO⟩ := hq; exact hO.same
    obtain ⟨v3, e3, hr2⟩ : ∃ (v3 : Value) (e3 : Int), r2 = .tuple #[v3, .int .i64 e3] := by
      cases ho : openB (sub B 1 13) with
      | none => rw [ho] at hq; obtain ⟨_, e, _, h⟩ := hq; exact ⟨_, _, h⟩
      | some p => rw [ho] at hq; obtain ⟨v3, h, _⟩ := hq; exact ⟨_, _, h⟩
    subst hr2
    have hz := h0 _ hS
    generalize (B[0]!.toNat : Int) = x at *
    repeat' (first | (exfalso; omega) | refine zn ?_ | refine zK rfl ?_ | refine zP rfl ?_ | ((first | refine zm ?_ | skip); intro _; intros; simp (disch := first | exact zd | fail) only [↓yS, yT, gresults, gone, ↓reduceIte, Nat.reduceEqDiff, Nat.reduceAdd, Nat.reduceMul, reduceCtorEq, Int.reduceToNat, g46, hia, hz]; first | (rename_i K k; (first | refine yC (k _ _ ?_) | refine zg (k _ ?_)); clear k K) | (rename_i A B C D a b c d; (first | refine zx (a ?_) | refine zy (b ?_) | refine zz (fun hc => c ?_) (fun hc => d ?_) | refine zv (b ?_) | refine zw (a ?_)) <;> clear a b c d A B C D <;> try simp only [yL] at hc)) | refine zA ?_ | refine zB ?_ | refine zF ?_)
    refine hPost _ _ ⟨?_, hS⟩
    rw [hg]; rfl
theorem appB_new {H0 H : GHeap} {i : Nat} {x : Value} {l : List UInt8} (h : OB H0 H (.slice (some ⟨i, 0, none⟩) 0 1) []) (hx : RB H x l) (hl : l.length ≤ 140737488355328) :
    ∃ s' ro, gappM 1 1 257 H (.slice (some ⟨i, 0, none⟩) 0 1) x = some (s', ro) ∧ OB H0 (H.add ro) s' l ∧ Same H (H.add ro) := by
  have h1 : gcount x = some l.length := by
    obtain ⟨_, a, gc, e, _⟩ := hx.rd
    rw [e]; rfl
  have h2 : gcells 1 l.length H x = some (u8s l) := gcells_arg hx
  have hw := h.same.wf
  by_cases hA : l.length = 0
  · obtain rfl : l = [] := List.eq_nil_of_length_eq_zero hA
    refine ⟨_, none, ?_, h, Same.refl hw⟩
    simp only [gappM, h1, Option.bind_some, h2]
    rfl
  · have ho : gcells 1 0 H (.slice (some ⟨i, 0, none⟩) 0 1) = some [] := rfl
    refine ⟨.slice (some ⟨H.len, 0, none⟩) l.length 0, some (.cells (u8s l) 257 true), ?_, OB.made h.same rfl 0 (.inl rfl), (Same.refl hw).add _⟩
    simp only [gappM, h1, Option.bind_some, h2]
    rw [if_neg hA, if_pos ⟨by omega, by omega, by decide, by rw [u8s_length, Nat.mul_one]⟩, if_pos ⟨by decide, by omega⟩, ho]
    simp
theorem OB.put0 {H0 H : GHeap} {v : Value} {l : List UInt8} (h : OB H0 H v l) {k : Nat} (hk : H0.len ≤ k) {cs : List Value} (hm : H.mine k = some (cs, 0)) (o : GObj) : OB H0 (H.put k o) v l :=
  ⟨h.same.put hk (mine_lt h.same.wf hm) _, ⟨h.own.len, h.own.at_.imp id fun ⟨i, gc, e, hg, hmi⟩ => ⟨i, gc, e, hg, by rw [mine_put_ne (mine_ne hm hmi (by decide))]; exact hmi⟩⟩, h.young⟩
/-- what the reference's read returns -/
def RReadOut (H H' : GHeap) (r : Value) : Option JR → Prop
  | some x => ∃ dv, r = .tuple #[recV x dv, .bool true] ∧ OB H H' dv x.data
  | none => Same H H' ∧ r = .tuple #[.agg #[.int .i64 0, .bool false, .slice none 0 0], .bool false]
set_option maxHeartbeats 2000000 in
theorem rread_ok {H : GHeap} (hw : H.wf) {v : Value} {b : List UInt8} (hb : RB H v b) (hl : b.length < 70368744177664) {o last : Nat} (ho : o < b.length) (hla : last < 4611686018427387904) (hol : o = 13 ↔ last = 0) :
    ∃ r H', gev G 48 [v, .int .i64 o, .int .i64 last] H = some (r, H') ∧ RReadOut H H' r (readB b o last) := by
  refine gev_GW (f := 48) rfl fun Post hPost => ?_
  have hsl := hb.isSl
  have hlim := hw.1
  have hS1 := (Same.refl hw).add (.cells [.int .i64 0, .bool false, .slice none 0 0] 0 true)
  have hbd : ∀ k : Nat, k < b.length → H.rd (blk v) (ofs v + k) = some (.int .u8 b[k]!.toNat) := fun k hk => hb.read hk
  have e5 : ((b[o]!.toNat : Int) = 165) ↔ b[o]! = 165 := u8_lit (c := 165) (by decide)
  have e6 : ((b[o]!.toNat : Int) = 166) ↔ b[o]! = 166 := u8_lit (c := 166) (by decide)
  simp only [frameOf, Nat.reduceAdd]
  have hst : (decide ((b[o]!.toNat : Int) = 166)) = (b[o]! == 166) := by
    by_cases h : b[o]! = 166
    · rw [decide_eq_true (e6.2 h)]; simp [h]
    · rw [decide_eq_false (fun hh => h (e6.1 hh))]; exact (beq_eq_false_iff_ne.2 h).symm
  generalize hx : (b[o]!.toNat : Int) = x at *
  have hrd : H.rd (blk v) (ofs v + o) = some (.int .u8 x) := by rw [hbd o ho, hx]
  have hltb := hb.lt (by omega)
  have rp3 : ∀ (H : GHeap) (i : Nat) (a b c : Value) (u : Nat), (H.put i (.cells [a, b, c] u true)).rdn i 0 3 = some (.agg #[a, b, c]) := fun H i a b c u => rdn_put_all rfl
  have hnone : readB b o last = none → ∀ H1, Same H H1 → Post (.tuple #[.agg #[.int .i64 0, .bool false, .slice none 0 0], .bool false]) H1 := fun e H1 h => hPost _ _ (by rw [e]; exact ⟨h, rfl⟩)
  by_cases hA : (b[o]! ≠ 165 ∧ (b[o]! ≠ 166 ∨ last ≠ 0)) ∨ b.length ≤ o + 17
  · have hno : readB b o last = none := by rw [readB, if_pos hA]
    have hA' : (¬ x = 165 ∧ (¬ x = 166 ∨ ¬ last = 0)) ∨ b.length ≤ o + 17 := by rw [e5, e6]; exact hA
    repeat' (first | (exfalso; omega) | refine zn ?_ | refine zK rfl ?_ | refine zP rfl ?_ | ((first | refine zm ?_ | skip); intro _; intros; simp (disch := first | exact zd | fail) only [↓yS, yT, gresults, gone, ↓reduceIte, Nat.reduceEqDiff, Nat.reduceAdd, Nat.reduceMul, reduceCtorEq, Int.reduceToNat, g48, hsl.len, hsl.ia, hrd, rp3]; first | (rename_i K k; (first | refine yC (k _ _ ?_) | refine zg (k _ ?_)); clear k K) | (rename_i A B C D a b c d; (first | refine zx (a ?_) | refine zy (b ?_) | refine zz (fun hc => c ?_) (fun hc => d ?_) | refine zv (b ?_) | refine zw (a ?_)) <;> clear a b c d A B C D <;> try simp only [yL] at hc)) | refine zA ?_ | refine zB ?_ | refine zF ?_)
    all_goals exact hnone hno _ (hS1.put (Nat.le_refl _) (Nat.lt_succ_self _) _)
  have hA' : ¬ ((¬ x = 165 ∧ (¬ x = 166 ∨ ¬ last = 0)) ∨ b.length ≤ o + 17) := by rw [e5, e6]; exact hA
  have hlen : o + 17 < b.length := by omega
  obtain ⟨v4, hs4, hV4⟩ := (hb.same_ hw hS1).slice (k := .i64) (a := (o : Int) + 1) (b := (o : Int) + 5) (by omega) (by omega) (by omega)
  have hV4 : RB (H.add (some (.cells [.int .i64 0, .bool false, .slice none 0 0] 0 true))) v4 (sub b (o + 1) (o + 5)) := by
    rw [show ((o : Int) + 1).toNat = o + 1 by omega, show ((o : Int) + 5).toNat = o + 5 by omega] at hV4; exact hV4
  have hl4 : (sub b (o + 1) (o + 5)).length = 4 := by rw [sub_length (by omega)]; omega
  have hn32 : leN (sub b (o + 1) (o + 5)) < 4294967296 := by have := leN_lt (sub b (o + 1) (o + 5)); rw [hl4] at this; exact this
  have hrb : readB b o last = if b.length - o - 17 ≤ leN (sub b (o + 1) (o + 5)) then none
      else match openB (sub b (o + 1) (o + 17 + leN (sub b (o + 1) (o + 5)))) with
        | none => none
        | some p =>
          if last = 0 ∧ (leN (sub p 4 12) < 1 ∨ 1099511627776 < leN (sub p 4 12)) ∨ last ≠ 0 ∧ leN (sub p 4 12) ≠ last + 1 then none
          else some ⟨leN (sub p 4 12), b[o]! == 166, p.drop 12⟩ := by rw [readB, if_neg hA]; rfl
  have hnum := rnum_ok hV4 (by omega)
  generalize leN (sub b (o + 1) (o + 5)) = n at *
  have hcv : ∀ H : GHeap, gconv (.int .i64) H (.int .u64 (n : Int)) = some (.int .i64 (n : Int), none) := fun H => by rw [gcv_int, wr_i64 (by omega)]
  have hm1 : (H.add (some (.cells [.int .i64 0, .bool false, .slice none 0 0] 0 true))).mine H.len = some ([.int .i64 0, .bool false, .slice none 0 0], 0) := mine_add_eq rfl hlim
  repeat' (first | (exfalso; omega) | refine zn ?_ | refine zK rfl ?_ | refine zP rfl ?_ | ((first | refine zm ?_ | skip); intro _; intros; simp (disch := first | exact zd | fail) only [↓yS, yT, gresults, gone, ↓reduceIte, Nat.reduceEqDiff, Nat.reduceAdd, Nat.reduceMul, reduceCtorEq, Int.reduceToNat, g48, hsl.len, hsl.ia, hrd, rp3, hs4]; first | (rename_i K k; (first | refine yC (k _ _ ?_) | refine zg (k _ ?_)); clear k K) | (rename_i A B C D a b c d; (first | refine zx (a ?_) | refine zy (b ?_) | refine zz (fun hc => c ?_) (fun hc => d ?_) | refine zv (b ?_) | refine zw (a ?_)) <;> clear a b c d A B C D <;> try simp only [yL] at hc)) | refine zA ?_ | refine zB ?_ | refine zF ?_)
  all_goals
    refine Gw_s fun K' hK' => G1_call (by simp only [gtarget, ↓GArg.ev, ↓evs, ↓Tr.get_set, Nat.reduceEqDiff, if_true, if_false, ↓reduceIte, Option.map_some]; rfl) (hnum) fun r2 H2 hq => hK' _ _ ?_
    obtain ⟨rfl, rfl⟩ := hq
    by_cases hB : b.length - o - 17 ≤ n
    · rw [if_pos hB] at hrb
      repeat' (first | (exfalso; omega) | refine zn ?_ | refine zK rfl ?_ | refine zP rfl ?_ | ((first | refine zm ?_ | skip); intro _; intros; simp (disch := first | exact zd | fail) only [↓yS, yT, gresults, gone, ↓reduceIte, Nat.reduceEqDiff, Nat.reduceAdd, Nat.reduceMul, reduceCtorEq, Int.reduceToNat, g48, hsl.len, hcv, rp3]; first | (rename_i K k; (first | refine yC (k _ _ ?_) | refine zg (k _ ?_)); clear k K) | (rename_i A B C D a b c d; (first | refine zx (a ?_) | refine zy (b ?_) | refine zz (fun hc => c ?_) (fun hc => d ?_) | refine zv (b ?_) | refine zw (a ?_)) <;> clear a b c d A B C D <;> try simp only [yL] at hc)) | refine zA ?_ | refine zB ?_ | refine zF ?_)
      all_goals exact hnone hrb _ (hS1.put (Nat.le_refl _) (Nat.lt_succ_self _) _)
    rw [if_neg hB] at hrb
    obtain ⟨v5, hs5, hV5⟩ := (hb.same_ hw hS1).slice (k := .i64) (a := (o : Int) + 1) (b := (o : Int) + 17 + n) (by omega) (by omega) (by omega)
    have hV5 : RB (H.add (some (.cells [.int .i64 0, .bool false, .slice none 0 0] 0 true))) v5 (sub b (o + 1) (o + 17 + n)) := by
      rw [show ((o : Int) + 1).toNat = o + 1 by omega, show ((o : Int) + 17 + n).toNat = o + 17 + n by omega] at hV5; exact hV5
    have hl5 : (sub b (o + 1) (o + 17 + n)).length = 16 + n := by rw [sub_length (by omega)]; omega
    repeat' (first | (exfalso; omega) | refine zn ?_ | refine zK rfl ?_ | refine zP rfl ?_ | ((first | refine zm ?_ | skip); intro _; intros; simp (disch := first | exact zd | fail) only [↓yS, yT, gresults, gone, ↓reduceIte, Nat.reduceEqDiff, Nat.reduceAdd, Nat.reduceMul, reduceCtorEq, Int.reduceToNat, g48, hsl.len, hcv, hs5]; first | (rename_i K k; (first | refine yC (k _ _ ?_) | refine zg (k _ ?_)); clear k K) | (rename_i A B C D a b c d; (first | refine zx (a ?_) | refine zy (b ?_) | refine zz (fun hc => c ?_) (fun hc => d ?_) | refine zv (b ?_) | refine zw (a ?_)) <;> clear a b c d A B C D <;> try simp only [yL] at hc)) | refine zA ?_ | refine zB ?_ | refine zF ?_)
    refine Gw_s fun K' hK' => G1_call (by simp only [gtarget, ↓GArg.ev, ↓evs, ↓Tr.get_set, Nat.reduceEqDiff, if_true, if_false, ↓reduceIte, Option.map_some]; rfl) (ropen_ok hS1.wf hV5 (by omega)) fun r3 H3 hq => hK' _ _ ?_
    cases hop : openB (sub b (o + 1) (o + 17 + n)) with
    | none =>
      rw [hop] at hq hrb
      obtain ⟨hS3, e, hne, rfl⟩ := hq
      have hm3 := (hS3.mine (Nat.lt_succ_self H.len)).trans hm1
      repeat' (first | (exfalso; omega) | refine zn ?_ | refine zK rfl ?_ | refine zP rfl ?_ | ((first | refine zm ?_ | skip); intro _; intros; simp (disch := first | exact zd | fail) only [↓yS, yT, gresults, gone, ↓reduceIte, Nat.reduceEqDiff, Nat.reduceAdd, Nat.reduceMul, reduceCtorEq, Int.reduceToNat, g48, hsl.len, hsl.ia, rp3, hm3]; first | (rename_i K k; (first | refine yC (k _ _ ?_) | refine zg (k _ ?_)); clear k K) | (rename_i A B C D a b c d; (first | refine zx (a ?_) | refine zy (b ?_) | refine zz (fun hc => c ?_) (fun hc => d ?_) | refine zv (b ?_) | refine zw (a ?_)) <;> clear a b c d A B C D <;> try simp only [yL] at hc)) | refine zA ?_ | refine zB ?_ | refine zF ?_)
      exact hnone hrb _ ((hS1.trans hS3).put (Nat.le_refl _) (Nat.lt_of_lt_of_le (Nat.lt_succ_self _) hS3.len) _)
    | some p =>
      rw [hop] at hq hrb
      dsimp only at hrb
      obtain ⟨v6, rfl, hO⟩ := hq
      have hpl := openB_length hop
      have hlp : 12 ≤ p.length := by omega
      have hm3 := (hO.same.mine (Nat.lt_succ_self H.len)).trans hm1
      obtain ⟨v7, hs7, hV7⟩ := hO.rb.slice (k := .i64) (a := 4) (b := 12) (by omega) (by omega) (by omega)
      have hV7 : RB H3 v7 (sub p 4 12) := hV7
      have hl7 : (sub p 4 12).length = 8 := by rw [sub_length (by omega)]
      have hn64 : leN (sub p 4 12) < 18446744073709551616 := by have := leN_lt (sub p 4 12); rw [hl7] at this; exact this
      repeat' (first | (exfalso; omega) | refine zn ?_ | refine zK rfl ?_ | refine zP rfl ?_ | ((first | refine zm ?_ | skip); intro _; intros; simp (disch := first | exact zd | fail) only [↓yS, yT, gresults, gone, ↓reduceIte, Nat.reduceEqDiff, Nat.reduceAdd, Nat.reduceMul, reduceCtorEq, Int.reduceToNat, g48, hsl.len, hsl.ia, rp3, hs7]; first | (rename_i K k; (first | refine yC (k _ _ ?_) | refine zg (k _ ?_)); clear k K) | (rename_i A B C D a b c d; (first | refine zx (a ?_) | refine zy (b ?_) | refine zz (fun hc => c ?_) (fun hc => d ?_) | refine zv (b ?_) | refine zw (a ?_)) <;> clear a b c d A B C D <;> try simp only [yL] at hc)) | refine zA ?_ | refine zB ?_ | refine zF ?_)
      refine Gw_s fun K' hK' => G1_call (by simp only [gtarget, ↓GArg.ev, ↓evs, ↓Tr.get_set, Nat.reduceEqDiff, if_true, if_false, ↓reduceIte, Option.map_some]; rfl) (rnum_ok hV7 (by omega)) fun r8 H8 hq => hK' _ _ ?_
      obtain ⟨rfl, rfl⟩ := hq
      generalize leN (sub p 4 12) = k at *
      have hw2 : ∀ H : GHeap, gconv (.int .u64) H (.int .i64 ((last : Int) + 1)) = some (.int .u64 ((last : Int) + 1), none) := fun H => by rw [gcv_int, wrap_u64i (by omega) (by omega)]
      have hlt8 := Nat.lt_of_lt_of_le (Nat.lt_succ_self _) hO.same.len
      by_cases hC : last = 0 ∧ (k < 1 ∨ 1099511627776 < k) ∨ last ≠ 0 ∧ k ≠ last + 1
      · rw [if_pos hC] at hrb
        repeat' (first | (exfalso; omega) | refine zn ?_ | refine zK rfl ?_ | refine zP rfl ?_ | ((first | refine zm ?_ | skip); intro _; intros; simp (disch := first | exact zd | fail) only [↓yS, yT, gresults, gone, ↓reduceIte, Nat.reduceEqDiff, Nat.reduceAdd, Nat.reduceMul, reduceCtorEq, Int.reduceToNat, g48, hsl.len, hsl.ia, rp3, hm3, hw2]; first | (rename_i K k; (first | refine yC (k _ _ ?_) | refine zg (k _ ?_)); clear k K) | (rename_i A B C D a b c d; (first | refine zx (a ?_) | refine zy (b ?_) | refine zz (fun hc => c ?_) (fun hc => d ?_) | refine zv (b ?_) | refine zw (a ?_)) <;> clear a b c d A B C D <;> try simp only [yL] at hc)) | refine zA ?_ | refine zB ?_ | refine zF ?_)
        all_goals exact hnone hrb _ ((hS1.trans hO.same).put (Nat.le_refl _) hlt8 _)
      rw [if_neg hC] at hrb
      have hw8 := hO.same.wf
      have hrd3 : ∀ H', Same H8 H' → H'.rd (blk v) (ofs v + o) = some (.int .u8 x) := fun H' hs => by rw [((hS1.trans hO.same).trans hs).rd hltb]; exact hrd
      have hk64 : ∀ H : GHeap, gconv (.int .i64) H (.int .u64 (k : Int)) = some (.int .i64 (k : Int), none) := fun H => by rw [gcv_int, wr_i64 (by omega)]
      have hSa := (Same.refl hw8).add (.cells [] 257 true)
      have hOa := hO.later hSa
      obtain ⟨q, n', gc', hs8, hV8, hmq, hyq⟩ := hOa.suf (k := .i64) (a := 12) hlp (by omega)
      have hs8 : gslice (.sl 1) (H8.add (some (.cells [] 257 true))) v6 (some (.int .i64 12)) none none = some (.slice (some ⟨q, 12, none⟩) n' gc') := hs8
      have hOe : OB H (H8.add (some (.cells [] 257 true))) (.slice (some ⟨H8.len, 0, none⟩) 0 1) [] := OB.made (l := []) (hS1.trans hO.same) rfl 1 (.inr rfl)
      have hV8' : RB (H8.add (some (.cells [] 257 true))) (.slice (some ⟨q, 12, none⟩) n' gc') (p.drop 12) := hV8
      obtain ⟨s', ro, e9, hO9, hS9⟩ := appB_new hOe hV8' (by simp; omega)
      have hr8 := hrd3 _ hSa
      have hr80 := hrd3 _ (Same.refl hw8)
      have hfl := hO9.rb.flat
      have hm9 : ((H8.add (some (.cells [] 257 true))).add ro).mine H.len = some ([.int .i64 0, .bool false, .slice none 0 0], 0) := by
        rw [hS9.mine (by rw [len_add]; omega), hSa.mine hlt8]; exact hm3
      have hbr := fun t => build_rec (k := (k : Int)) (t := t) hfl
      have hgr : ∀ t, gsetn [.int .i64 0, .bool false, .slice none 0 0] 0 3 (.agg #[.int .i64 k, .bool t, s']) = some [.int .i64 k, .bool t, s'] := fun t => gsetn_all rfl rfl (by
        show ([.int .i64 k, .bool t, s'] : List Value).all flatV = true
        simp only [List.all_cons, List.all_nil, hfl]; rfl)
      have hl9 := hO9.same.len
      repeat' (first | (exfalso; omega) | refine zn ?_ | refine zK rfl ?_ | refine zP rfl ?_ | ((first | refine zm ?_ | skip); intro _; intros; simp (disch := first | exact zd | fail) only [↓yS, yT, gresults, gone, ↓reduceIte, Nat.reduceEqDiff, Nat.reduceAdd, Nat.reduceMul, reduceCtorEq, Int.reduceToNat, g48, hsl.len, hsl.ia, rp3, hw2, hk64, hr80, hs8, e9, hbr, hm9, hgr]; first | (rename_i K k; (first | refine yC (k _ _ ?_) | refine zg (k _ ?_)); clear k K) | (rename_i A B C D a b c d; (first | refine zx (a ?_) | refine zy (b ?_) | refine zz (fun hc => c ?_) (fun hc => d ?_) | refine zv (b ?_) | refine zw (a ?_)) <;> clear a b c d A B C D <;> try simp only [yL] at hc)) | refine zA ?_ | refine zB ?_ | refine zF ?_)
      all_goals
        rw [hst]
        refine hPost _ _ ?_
        rw [hrb]
        exact ⟨s', rfl, hO9.put0 (Nat.le_refl _) hm9 _⟩
end Go.Gh
