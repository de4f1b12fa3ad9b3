/-
  The journal, walked: Append.
-/
import Derived.Test.YtbficpmoppailaaJnW6
namespace Go.Gh
set_option linter.unusedSimpArgs false
set_option linter.unusedVariables false
set_option maxHeartbeats 4000000
open Go.RowKit
set_option maxRecDepth 4000

theorem refB_cases (m : JM) (l : JL) (o n : Nat) : refB m l o n = 9 ∨ refB m l o n = 20 ∨ refB m l o n = 21 ∨ (refB m l o n = 0 ∧ l.next ≤ 1099511627776 ∧ o + 17 + n < m.size ∧ l.broken = false ∧ m.off = false) := by
  unfold refB
  by_cases h1 : 1099511627776 < l.next
  · rw [if_pos h1]; exact .inl rfl
  · rw [if_neg h1]
    by_cases h2 : m.size ≤ o + 17 + n
    · rw [if_pos h2]; exact .inr (.inl rfl)
    · rw [if_neg h2]
      by_cases h3 : (l.broken || m.off) = true
      · rw [if_pos h3]; exact .inr (.inr (.inl rfl))
      · rw [if_neg h3]
        simp only [Bool.or_eq_true, not_or, Bool.not_eq_true] at h3
        exact .inr (.inr (.inr ⟨rfl, by omega, by omega, h3.1, h3.2⟩))
/-- the objects of a journal -/
def jo (i j k : Nat) : Nat → Prop := fun z => z = i ∨ z = j ∨ z = k
theorem wrB_size (m : JM) (l : List (Nat × UInt8)) : (wrB m l).1.size = m.size := by unfold JM.size; rw [wrB_length]
theorem fill1z {n : Int} : fillL (ints .u8 (List.replicate 1 0)) [(0, 1, .int .u8 n)] = some [.int .u8 n] := rfl
theorem RB.one {H : GHeap} (hw : H.wf) (b : UInt8) : RB (H.add (some (.cells [.int .u8 b.toNat] 257 true))) (.slice (some ⟨H.len, 0, none⟩) 1 2) [b] :=
  (OB.made (l := [b]) (Same.refl hw) rfl 2 (.inr rfl)).rb
section
variable {H H' : GHeap} {i j gc k : Nat} {m : JM} {l : JL}
theorem LogAt.but {S : Nat → Prop} (hw : H.wf) (h : LogAt H k i l) (hb : But S H H') (hs : ¬ S k) : LogAt H' k i l := by
  unfold LogAt at *
  rw [hb.mine (mine_lt hw h) hs]; exact h
/-- a byte, or several, written: the memory, the journal -/
structure JAt (H : GHeap) (i j gc k : Nat) (m : JM) (l : JL) : Prop where
  wf : H.wf
  mem : MemAt H i j gc m
  log : LogAt H k i l
  ne : k ≠ i
theorem JAt.nj (h : JAt H i j gc k m l) : k ≠ j := mine_ne h.log h.mem.dat (by decide)
theorem JAt.later (h : JAt H i j gc k m l) (hs : Same H H') : JAt H' i j gc k m l :=
  ⟨hs.wf, h.mem.later h.wf hs, h.log.but h.wf (But.of (S := fun _ => False) hs) id, h.ne⟩
theorem JAt.write (h : JAt H i j gc k m l) {v : Value} {p : List UInt8} (hp : RB H v p) (ha : ∀ a ∈ idOf v, ¬ mo i j a) {o : Nat} (ho : o + p.length ≤ m.data.length) :
    ∃ r H', gev G 41 [ptr i, .int .i64 o, v] H = some (r, H') ∧ (r = .bool (wrB m (at_ o p)).2 ∧ JAt H' i j gc k (wrB m (at_ o p)).1 l ∧ But (mo i j) H H') := by
  obtain ⟨r, H', e, h1, h2, h3⟩ := write_ok h.wf h.mem hp ha ho
  exact ⟨r, H', e, h1, ⟨h3.wf, h2, h.log.but h.wf h3 (by rintro (e | e); exact h.ne e; exact h.nj e), h.ne⟩, h3⟩
theorem JAt.write1 (h : JAt H i j gc k m l) (b : UInt8) {o : Nat} (ho : o + 1 ≤ m.data.length) :
    ∃ r H', gev G 41 [ptr i, .int .i64 o, .slice (some ⟨H.len, 0, none⟩) 1 2] (H.add (some (.cells [.int .u8 b.toNat] 257 true))) = some (r, H') ∧ (r = .bool (wrB m [(o, b)]).2 ∧ JAt H' i j gc k (wrB m [(o, b)]).1 l ∧ But (mo i j) H H') := by
  have hS := (Same.refl h.wf).add (.cells [.int .u8 b.toNat] 257 true)
  obtain ⟨r, H', e, h1, h2, h3⟩ := (h.later hS).write (RB.one h.wf b) (p := [b]) (o := o) (by
    intro a ha
    simp only [idOf, List.mem_singleton] at ha
    subst ha
    have := mine_lt h.wf h.mem.obj
    have := mine_lt h.wf h.mem.dat
    rintro (e | e) <;> omega) (by simpa using ho)
  exact ⟨r, H', e, h1, h2, (But.of hS).trans h3⟩
end
theorem OB.ids {H0 H : GHeap} {v : Value} {l : List UInt8} (h : OB H0 H v l) : ∀ a ∈ idOf v, H0.len ≤ a := by
  intro a ha
  rcases h.own.at_ with ⟨e, _⟩ | ⟨i, gc, e, _, hm⟩
  · rw [e] at ha; simp [idOf] at ha
  · rw [e] at ha
    simp only [idOf, List.mem_singleton] at ha
    subst ha
    rcases h.young with e2 | e2
    · rw [e] at e2; cases e2
    · rw [e] at e2; exact e2
theorem JAt.young {H : GHeap} {i j gc k : Nat} {m : JM} {l : JL} (h : JAt H i j gc k m l) {v : Value} (hy : ∀ a ∈ idOf v, H.len ≤ a) : ∀ a ∈ idOf v, ¬ jo i j k a := by
  intro a ha
  have := hy a ha
  have := mine_lt h.wf h.mem.obj
  have := mine_lt h.wf h.mem.dat
  have := mine_lt h.wf h.log
  rintro (e | e | e) <;> omega
theorem JAt.broke {H : GHeap} {i j gc k : Nat} {m : JM} {l : JL} (h : JAt H i j gc k m l) (l' : JL) : JAt (H.put k (.cells (logCells (ptr i) l') 0 true)) i j gc k m l' ∧ But (jo i j k) H (H.put k (.cells (logCells (ptr i) l') 0 true)) := by
  have hlt := mine_lt h.wf h.log
  refine ⟨⟨wf_put h.wf hlt _, ⟨?_, ?_, h.mem.ne, h.mem.cap, h.mem.big, h.mem.low⟩, mine_put_same (mine_obj h.log).1, h.ne⟩, (But.refl h.wf).put (.inr (.inr rfl)) hlt _⟩
  · rw [mine_put_ne h.ne]; exact h.mem.obj
  · rw [mine_put_ne h.nj]; exact h.mem.dat
theorem mo_jo {i j k : Nat} : ∀ z, mo i j z → jo i j k z := fun z h => h.elim .inl fun h => .inr (.inl h)
theorem wrB_yes {m : JM} {a b : List (Nat × UInt8)} (h : (wrB m a).2 = true) : wrB m (a ++ b) = wrB (wrB m a).1 b := by rw [wrB_append, if_pos h]
theorem wrB_no {m : JM} {a b : List (Nat × UInt8)} (h : (wrB m a).2 = false) : wrB m (a ++ b) = wrB m a := by rw [wrB_append, if_neg (by rw [h]; decide)]
set_option maxHeartbeats 1000000 in
theorem append_ok {H : GHeap} {i j gc k : Nat} {m : JM} {l : JL} (h : JAt H i j gc k m l) (hbk : l.bank < 2) (hfin : l.fin < 70368744177664) {v : Value} {p : List UInt8} (hp : RB H v p) (ha : ∀ a ∈ idOf v, ¬ jo i j k a) (hpl : p.length < 4294967296) :
    ∃ r H', gev G 16 [ptr k, v] H = some (r, H') ∧ (r = .tuple #[.int .i64 ((appendJ m l p).2.2.1 : Nat), .int .i64 (appendJ m l p).2.2.2] ∧ JAt H' i j gc k (appendJ m l p).1 (appendJ m l p).2.1 ∧ But (jo i j k) H H') := by
  refine gev_GW (f := 16) rfl fun Post hPost => ?_
  have hw := h.wf
  have hL' : H.mine k = some (logCells (ptr i) l, 0) := h.log
  have hrd := fun o => mine_rd (o := o) hL'
  have hsl := hp.isSl
  have hbig := h.mem.big
  have hsz : m.size = m.data.length / 2 := rfl
  simp only [frameOf, Nat.reduceAdd]
  repeat' (first | refine zn ?_ | refine zK rfl ?_ | refine zP rfl ?_ | ((first | refine zm ?_ | skip); intro _; intros; simp (disch := first | exact zd | fail) only [↓yS, yT, gresults, gone, ↓reduceIte, Nat.reduceEqDiff, Nat.reduceAdd, Nat.reduceMul, reduceCtorEq, Int.reduceToNat, g16, ptr, hrd, logCells, hsl.len]; first | (rename_i K k; (first | refine yC (k _ _ ?_) | refine zg (k _ ?_)); clear k K) | (rename_i A B C D a b c d; (first | refine zx (a ?_) | refine zy (b ?_) | refine zz (fun hc => c ?_) (fun hc => d ?_) | refine zv (b ?_) | refine zw (a ?_)) <;> clear a b c d A B C D <;> try simp only [yL] at hc)) | refine zA ?_ | refine zB ?_ | refine zF ?_)
  refine Gw_s fun K' hK' => G1_call (by simp only [gtarget, ↓GArg.ev, ↓evs, ↓Tr.get_set, Nat.reduceEqDiff, if_true, if_false, ↓reduceIte, Option.map_some]; rfl) (refused_ok hw h.mem h.log h.ne hfin (n := p.length) (by omega)) fun r2 H2 hq => hK' _ _ ?_
  obtain ⟨rfl, hL2, hM2, hB2⟩ := hq
  rcases refB_cases m l l.fin p.length with hr | hr | hr | ⟨hr, hr1, hr2, hr3, hr4⟩
  case inr.inr.inr =>
    rw [hr] at hL2 ⊢
    rw [if_neg (by decide)] at hL2
    have hJ2 : JAt H2 i j gc k m l := ⟨hB2.wf, hM2, hL2, h.ne⟩
    have hL2' : H2.mine k = some (logCells (ptr i) l, 0) := hL2
    have hrd2 := fun o => mine_rd (o := o) hL2'
    have hm1 : l.bank * m.size ≤ m.data.length ∧ l.bank * m.size + m.size ≤ m.data.length := by
      rcases (show l.bank = 0 ∨ l.bank = 1 by omega) with e | e <;> rw [e] <;> omega
    have k1 : ∀ e, gbin .mul e (.int .i64 (l.bank : Int)) (.int .i64 (m.size : Int)) = some (.int .i64 ((l.bank * m.size : Nat) : Int)) := fun e => by
      rw [gb_mul, ← Int.natCast_mul, wr_i64 (by omega)]
    have happ : appW m l p = [(l.bank * m.size + l.fin, 0)] ++ ([(l.bank * m.size + l.fin + 17 + p.length, 0)] ++ (at_ (l.bank * m.size + l.fin + 1) (bodyB l.next p) ++ [(l.bank * m.size + l.fin, 165)])) := rfl
    have happ2 : appendJ m l p = if (wrB m (appW m l p)).2 = true then ((wrB m (appW m l p)).1, {l with fin := l.fin + 17 + p.length, next := l.next + 1}, l.next, 0) else ((wrB m (appW m l p)).1, l.broke, 0, 21) := by
      simp only [appendJ, hr]
      rw [if_neg (by decide), if_neg (by decide)]
    rw [happ2] at hPost
    clear happ2
    have hob : l.bank * m.size + l.fin + 17 + p.length < m.data.length := by omega
    generalize hoe : l.bank * m.size = q at *
    have k2 : ∀ e, gbin .add e (.int .i64 (q : Int)) (.int .i64 (l.fin : Int)) = some (.int .i64 ((q + l.fin : Nat) : Int)) := fun e => by
      rw [gb_add, wr_i64 (by omega)]; rfl
    generalize ho : q + l.fin = o at *
    have k3 : ∀ e, gbin .add e (.int .i64 (o : Int)) (.int .i64 17) = some (.int .i64 ((o + 17 : Nat) : Int)) := fun e => by
      rw [gb_add, wr_i64 (by omega)]; rfl
    have k4 : ∀ e, gbin .add e (.int .i64 ((o + 17 : Nat) : Int)) (.int .i64 (p.length : Int)) = some (.int .i64 ((o + 17 + p.length : Nat) : Int)) := fun e => by
      rw [gb_add, wr_i64 (by omega)]; rfl
    have k5 : ∀ e, gbin .add e (.int .i64 (o : Int)) (.int .i64 1) = some (.int .i64 ((o + 1 : Nat) : Int)) := fun e => by
      rw [gb_add, wr_i64 (by omega)]; rfl
    repeat' (first | (exfalso; omega) | refine zn ?_ | refine zK rfl ?_ | refine zP rfl ?_ | ((first | refine zm ?_ | skip); intro _; intros; simp (disch := first | exact zd | fail) only [↓yS, yT, gresults, gone, ↓reduceIte, Nat.reduceEqDiff, Nat.reduceAdd, Nat.reduceMul, reduceCtorEq, Int.reduceToNat, g16, ptr, hrd2, logCells]; first | (rename_i K k; (first | refine yC (k _ _ ?_) | refine zg (k _ ?_)); clear k K) | (rename_i A B C D a b c d; (first | refine zx (a ?_) | refine zy (b ?_) | refine zz (fun hc => c ?_) (fun hc => d ?_) | refine zv (b ?_) | refine zw (a ?_)) <;> clear a b c d A B C D <;> try simp only [yL] at hc)) | refine zA ?_ | refine zB ?_ | refine zF ?_)
    refine Gw_s fun K' hK' => G1_callM (by simp only [gtarget, ↓GArg.ev, ↓evs, ↓Tr.get_set, Nat.reduceEqDiff, if_true, if_false, ↓reduceIte, Option.map_some, ptr]; rfl) (size_up hM2) fun r3 H3 hq => hK' _ _ ?_
    obtain ⟨rfl, rfl⟩ := hq
    rw [updown]
    repeat' (first | (exfalso; omega) | refine zn ?_ | refine zK rfl ?_ | refine zP rfl ?_ | ((first | refine zm ?_ | skip); intro _; intros; simp (disch := first | exact zd | fail) only [↓yS, yT, gresults, gone, ↓reduceIte, Nat.reduceEqDiff, Nat.reduceAdd, Nat.reduceMul, reduceCtorEq, Int.reduceToNat, g16, ptr, hrd2, logCells, hsl.len, k1, k2, k3, k4, fill1z]; first | (rename_i K k; (first | refine yC (k _ _ ?_) | refine zg (k _ ?_)); clear k K) | (rename_i A B C D a b c d; (first | refine zx (a ?_) | refine zy (b ?_) | refine zz (fun hc => c ?_) (fun hc => d ?_) | refine zv (b ?_) | refine zw (a ?_)) <;> clear a b c d A B C D <;> try simp only [yL] at hc)) | refine zA ?_ | refine zB ?_ | refine zF ?_)
    refine Gw_s fun K' hK' => G1_call (by simp only [gtarget, ↓GArg.ev, ↓evs, ↓Tr.get_set, Nat.reduceEqDiff, if_true, if_false, ↓reduceIte, Option.map_some, ptr]; rfl) (hJ2.write1 0 (o := o) (by omega)) fun r4 H4 hq4 => hK' _ _ ?_
    obtain ⟨rfl, hJ4, hB4⟩ := hq4
    have hB24 : But (jo i j k) H H4 := (hB2.mono fun z hz => .inr (.inr hz)).trans (hB4.mono mo_jo)
    have hfail : ∀ r1 : JM × Bool, wrB m (appW m l p) = r1 → r1.2 = false → ∀ H5, JAt H5 i j gc k r1.1 l → But (jo i j k) H H5 → Post (.tuple #[.int .i64 0, .int .i64 21]) (H5.put k (.cells (logCells (ptr i) l.broke) 0 true)) := fun r1 e1 e2 H5 hJ hB => hPost _ _ (by
      rw [e1, if_neg (by rw [e2]; decide)]
      exact ⟨rfl, (hJ.broke l.broke).1, hB.trans (hJ.broke l.broke).2⟩)
    have hok : ∀ r1 : JM × Bool, wrB m (appW m l p) = r1 → r1.2 = true → ∀ H5, JAt H5 i j gc k r1.1 {l with fin := l.fin + 17 + p.length, next := l.next + 1} → But (jo i j k) H H5 → Post (.tuple #[.int .i64 (l.next : Int), .int .i64 0]) H5 := fun r1 e1 e2 H5 hJ hB => hPost _ _ (by
      rw [e1, if_pos e2]
      exact ⟨rfl, hJ, hB⟩)
    clear hPost
    rw [happ] at hfail hok
    have hL4 : H4.mine k = some (logCells (ptr i) l, 0) := hJ4.log
    repeat' (first | (exfalso; omega) | refine zn ?_ | refine zK rfl ?_ | refine zP rfl ?_ | ((first | refine zm ?_ | skip); intro _; intros; simp (disch := first | exact zd | fail) only [↓yS, yT, gresults, gone, ↓reduceIte, Nat.reduceEqDiff, Nat.reduceAdd, Nat.reduceMul, reduceCtorEq, Int.reduceToNat, g16, ptr, k5, fill1z, hL4, logCells]; first | (rename_i K k; (first | refine yC (k _ _ ?_) | refine zg (k _ ?_)); clear k K) | (rename_i A B C D a b c d; (first | refine zx (a ?_) | refine zy (b ?_) | refine zz (fun hc => c ?_) (fun hc => d ?_) | refine zv (b ?_) | refine zw (a ?_)) <;> clear a b c d A B C D <;> try simp only [yL] at hc)) | refine zA ?_ | refine zB ?_ | refine zF ?_)
    case refine_1 => exact hfail _ (wrB_no hc) hc _ hJ4 hB24
    case refine_2 =>
    rw [wrB_yes hc] at hfail hok
    have hl4 := wrB_length [(o, 0)] m
    generalize (wrB m [(o, 0)]).1 = m4 at *
    clear hc
    intro K' hK'; refine G1_call (by simp only [gtarget, ↓GArg.ev, ↓evs, ↓Tr.get_set, Nat.reduceEqDiff, if_true, if_false, ↓reduceIte, Option.map_some, ptr]; rfl) (hJ4.write1 0 (o := o + 17 + p.length) (by omega)) fun r5 H5 hq5 => hK' _ _ ?_
    obtain ⟨rfl, hJ5, hB5⟩ := hq5
    have hB25 := hB24.trans (hB5.mono mo_jo)
    have hL5 : H5.mine k = some (logCells (ptr i) l, 0) := hJ5.log
    repeat' (first | (exfalso; omega) | refine zn ?_ | refine zK rfl ?_ | refine zP rfl ?_ | ((first | refine zm ?_ | skip); intro _; intros; simp (disch := first | exact zd | fail) only [↓yS, yT, gresults, gone, ↓reduceIte, Nat.reduceEqDiff, Nat.reduceAdd, Nat.reduceMul, reduceCtorEq, Int.reduceToNat, g16, ptr, k5, fill1z, hL5, logCells]; first | (rename_i K k; (first | refine yC (k _ _ ?_) | refine zg (k _ ?_)); clear k K) | (rename_i A B C D a b c d; (first | refine zx (a ?_) | refine zy (b ?_) | refine zz (fun hc => c ?_) (fun hc => d ?_) | refine zv (b ?_) | refine zw (a ?_)) <;> clear a b c d A B C D <;> try simp only [yL] at hc)) | refine zA ?_ | refine zB ?_ | refine zF ?_)
    case refine_1 => exact hfail _ (wrB_no hc) hc _ hJ5 hB25
    case refine_2 =>
    rw [wrB_yes hc] at hfail hok
    have hl5 := wrB_length [(o + 17 + p.length, 0)] m4
    generalize (wrB m4 [(o + 17 + p.length, 0)]).1 = m5 at *
    clear hc
    have hp5 := hp.but hw hB25 ha
    intro K' hK'; refine G1_call (by simp only [gtarget, ↓GArg.ev, ↓evs, ↓Tr.get_set, Nat.reduceEqDiff, if_true, if_false, ↓reduceIte, Option.map_some, ptr]; rfl) (sealed_ok hJ5.wf hJ5.log hp5 hpl (by omega)) fun r6 H6 hq6 => hK' _ _ ?_
    have hJ6 := hJ5.later hq6.same
    have hB26 := hB25.trans (But.of (S := jo i j k) hq6.same)
    have hbl : (bodyB l.next p).length = 16 + p.length := by simp [bodyB, sealB_length, leB_length]; omega
    repeat' (first | (exfalso; omega) | refine zn ?_ | refine zK rfl ?_ | refine zP rfl ?_ | ((first | refine zm ?_ | skip); intro _; intros; simp (disch := first | exact zd | fail) only [↓yS, yT, gresults, gone, ↓reduceIte, Nat.reduceEqDiff, Nat.reduceAdd, Nat.reduceMul, reduceCtorEq, Int.reduceToNat, g16, ptr, k5]; first | (rename_i K k; (first | refine yC (k _ _ ?_) | refine zg (k _ ?_)); clear k K) | (rename_i A B C D a b c d; (first | refine zx (a ?_) | refine zy (b ?_) | refine zz (fun hc => c ?_) (fun hc => d ?_) | refine zv (b ?_) | refine zw (a ?_)) <;> clear a b c d A B C D <;> try simp only [yL] at hc)) | refine zA ?_ | refine zB ?_ | refine zF ?_)
    intro K' hK'; refine G1_call (by simp only [gtarget, ↓GArg.ev, ↓evs, ↓Tr.get_set, Nat.reduceEqDiff, if_true, if_false, ↓reduceIte, Option.map_some, ptr]; rfl) (hJ6.write hq6.rb (o := o + 1) ?_ (by omega)) fun r7 H7 hq7 => hK' _ _ ?_
    case refine_1 => exact fun a ha h2 => hJ5.young hq6.ids a ha (mo_jo a h2)
    case refine_2 =>
    obtain ⟨rfl, hJ7, hB7⟩ := hq7
    have hB27 := hB26.trans (hB7.mono mo_jo)
    have hL7 : H7.mine k = some (logCells (ptr i) l, 0) := hJ7.log
    repeat' (first | (exfalso; omega) | refine zn ?_ | refine zK rfl ?_ | refine zP rfl ?_ | ((first | refine zm ?_ | skip); intro _; intros; simp (disch := first | exact zd | fail) only [↓yS, yT, gresults, gone, ↓reduceIte, Nat.reduceEqDiff, Nat.reduceAdd, Nat.reduceMul, reduceCtorEq, Int.reduceToNat, g16, ptr, fill1z, hL7, logCells]; first | (rename_i K k; (first | refine yC (k _ _ ?_) | refine zg (k _ ?_)); clear k K) | (rename_i A B C D a b c d; (first | refine zx (a ?_) | refine zy (b ?_) | refine zz (fun hc => c ?_) (fun hc => d ?_) | refine zv (b ?_) | refine zw (a ?_)) <;> clear a b c d A B C D <;> try simp only [yL] at hc)) | refine zA ?_ | refine zB ?_ | refine zF ?_)
    case refine_1 => exact hfail _ (wrB_no hc) hc _ hJ7 hB27
    case refine_2 =>
    rw [wrB_yes hc] at hfail hok
    have hl7 := wrB_length (at_ (o + 1) (bodyB l.next p)) m5
    generalize (wrB m5 (at_ (o + 1) (bodyB l.next p))).1 = m7 at *
    clear hc
    intro K' hK'; refine G1_call (by simp only [gtarget, ↓GArg.ev, ↓evs, ↓Tr.get_set, Nat.reduceEqDiff, if_true, if_false, ↓reduceIte, Option.map_some, ptr]; rfl) (hJ7.write1 165 (o := o) (by omega)) fun r8 H8 hq8 => hK' _ _ ?_
    obtain ⟨rfl, hJ8, hB8⟩ := hq8
    have hB28 := hB27.trans (hB8.mono mo_jo)
    have hL8 : H8.mine k = some (logCells (ptr i) l, 0) := hJ8.log
    have hr8 := fun o => mine_rd (o := o) hL8
    have hlim8 := (mine_obj hL8).1
    repeat' (first | (exfalso; omega) | refine zn ?_ | refine zK rfl ?_ | refine zP rfl ?_ | ((first | refine zm ?_ | skip); intro _; intros; simp (disch := first | exact zd | fail) only [↓yS, yT, gresults, gone, ↓reduceIte, Nat.reduceEqDiff, Nat.reduceAdd, Nat.reduceMul, reduceCtorEq, Int.reduceToNat, g16, ptr, fill1z, hL8, hr8, logCells, hsl.len]; first | (rename_i K k; (first | refine yC (k _ _ ?_) | refine zg (k _ ?_)); clear k K) | (rename_i A B C D a b c d; (first | refine zx (a ?_) | refine zy (b ?_) | refine zz (fun hc => c ?_) (fun hc => d ?_) | refine zv (b ?_) | refine zw (a ?_)) <;> clear a b c d A B C D <;> try simp only [yL] at hc)) | refine zA ?_ | refine zB ?_ | refine zF ?_)
    case refine_1 => exact hfail _ rfl hc _ hJ8 hB28
    case refine_2 =>
    have hfin := hJ8.broke {l with fin := l.fin + 17 + p.length, next := l.next + 1}
    have hcast : logCells (ptr i) {l with fin := l.fin + 17 + p.length, next := l.next + 1} = [Value.pointer (some ⟨i, 0, none⟩), .int .i64 (l.bank : Int), .int .u64 (l.gen : Int), .int .i64 ((l.fin : Int) + (17 + (p.length : Int))), .int .i64 ((l.next : Int) + 1), .bool l.broken, .bool l.damaged] := by
      simp only [logCells, ptr, Int.natCast_add]
      congr 5
      omega
    rw [hcast] at hfin
    rw [show (l.next : Int) + 1 - 1 = l.next by omega]
    exact hok _ rfl hc _ hfin.1 (hB28.trans hfin.2)
  case inr.inr.inl =>
    have e2 : appendJ m l p = (m, l.broke, 0, 21) := by
      simp only [appendJ, hr, if_true]
    rw [hr] at hL2 ⊢
    rw [if_pos rfl] at hL2
    repeat' (first | (exfalso; omega) | refine zn ?_ | refine zK rfl ?_ | refine zP rfl ?_ | ((first | refine zm ?_ | skip); intro _; intros; simp (disch := first | exact zd | fail) only [↓yS, yT, gresults, gone, ↓reduceIte, Nat.reduceEqDiff, Nat.reduceAdd, Nat.reduceMul, reduceCtorEq, Int.reduceToNat, g16]; first | (rename_i K k; (first | refine yC (k _ _ ?_) | refine zg (k _ ?_)); clear k K) | (rename_i A B C D a b c d; (first | refine zx (a ?_) | refine zy (b ?_) | refine zz (fun hc => c ?_) (fun hc => d ?_) | refine zv (b ?_) | refine zw (a ?_)) <;> clear a b c d A B C D <;> try simp only [yL] at hc)) | refine zA ?_ | refine zB ?_ | refine zF ?_)
    refine hPost _ _ ?_
    rw [e2]
    exact ⟨rfl, ⟨hB2.wf, hM2, hL2, h.ne⟩, hB2.mono fun z hz => .inr (.inr hz)⟩
  all_goals
    have e2 : appendJ m l p = (m, l, 0, refB m l l.fin p.length) := by
      simp only [appendJ, hr]
      rw [if_neg (by decide), if_pos (by decide)]
    rw [hr] at hL2 e2 ⊢
    rw [if_neg (by decide)] at hL2
    repeat' (first | (exfalso; omega) | refine zn ?_ | refine zK rfl ?_ | refine zP rfl ?_ | ((first | refine zm ?_ | skip); intro _; intros; simp (disch := first | exact zd | fail) only [↓yS, yT, gresults, gone, ↓reduceIte, Nat.reduceEqDiff, Nat.reduceAdd, Nat.reduceMul, reduceCtorEq, Int.reduceToNat, g16]; first | (rename_i K k; (first | refine yC (k _ _ ?_) | refine zg (k _ ?_)); clear k K) | (rename_i A B C D a b c d; (first | refine zx (a ?_) | refine zy (b ?_) | refine zz (fun hc => c ?_) (fun hc => d ?_) | refine zv (b ?_) | refine zw (a ?_)) <;> clear a b c d A B C D <;> try simp only [yL] at hc)) | refine zA ?_ | refine zB ?_ | refine zF ?_)
    refine hPost _ _ ?_
    rw [e2]
    exact ⟨rfl, ⟨hB2.wf, hM2, hL2, h.ne⟩, hB2.mono fun z hz => .inr (.inr hz)⟩
end Go.Gh
