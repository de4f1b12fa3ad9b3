/-
  The journal and its reference, plain: what they answer is the same.
-/
import Derived.Test.YtbficpmoppailaaJnR7
namespace Go.Gh
set_option linter.unusedSimpArgs false
set_option linter.unusedVariables false
set_option maxHeartbeats 4000000
open Go.RowKit
set_option maxRecDepth 4000

/-- a journal's numbers are within reach -/
structure LB (l : JL) : Prop where
  bank : l.bank < 2
  fin : l.fin < 70368744177664
  gen : l.gen < 18446744073709551616
theorem recs_bd {b : List UInt8} : ∀ (f o last : Nat), o ≤ b.length → (recsB b f o last).1.length ≤ f ∧ (recsB b f o last).2.1 ≤ b.length
  | 0, o, last, h => ⟨Nat.le_refl _, h⟩
  | f + 1, o, last, h => by
    rw [recsB]
    by_cases h0 : b[o]! = 0
    · rw [if_pos h0]; exact ⟨Nat.zero_le _, h⟩
    · rw [if_neg h0]
      cases hr : readB b o last with
      | none => exact ⟨Nat.zero_le _, h⟩
      | some r =>
        have h1 := (readB_some hr).1
        obtain ⟨h2, h3⟩ := recs_bd (b := b) f (o + 17 + r.data.length) r.num (by omega)
        exact ⟨by simp only [List.length_cons]; omega, h3⟩
theorem genB_lt {b : List UInt8} {g : Nat} (h : genB b = some g) : g < 18446744073709551616 := by
  unfold genB at h
  split at h
  · cases h
  · cases ho : openB (sub b 1 13) with
    | none => rw [ho] at h; cases h
    | some p =>
      rw [ho] at h
      simp only [Option.map_some, Option.some.injEq] at h
      subst h
      have h1 := openB_length ho
      have h2 : (sub b 1 13).length ≤ 12 := by simp only [sub, List.length_take, List.length_drop]; omega
      have h3 := leN_lt p
      have h4 : (256 : Nat) ^ p.length ≤ 256 ^ 8 := Nat.pow_le_pow_right (by decide) (by omega)
      have h5 : (256 : Nat) ^ 8 = 18446744073709551616 := by decide
      omega
theorem chooseB_bd {d : List UInt8} {i g : Nat} (h : chooseB d = some (i, g)) : i < 2 ∧ g < 18446744073709551616 := by
  unfold chooseB at h
  cases h0 : genB (bankB d 0) with
  | none =>
    cases h1 : genB (bankB d 1) with
    | none => rw [h0, h1] at h; cases h
    | some b => rw [h0, h1] at h; cases h; exact ⟨by decide, genB_lt h1⟩
  | some a =>
    cases h1 : genB (bankB d 1) with
    | none => rw [h0, h1] at h; cases h; exact ⟨by decide, genB_lt h0⟩
    | some b =>
      rw [h0, h1] at h
      simp only at h
      split at h
      · cases h; exact ⟨by decide, genB_lt h1⟩
      · cases h; exact ⟨by decide, genB_lt h0⟩
theorem openJ_bd {d : List UInt8} {l : JL} {rs : List JR} (h : openJ d = some (l, rs)) (hd : d.length < 70368744177664) (hlo : 128 ≤ d.length) : LB l ∧ rs.length < 70368744177664 := by
  unfold openJ at h
  cases hc : chooseB d with
  | none => rw [hc] at h; cases h
  | some x =>
    obtain ⟨i, g⟩ := x
    rw [hc] at h
    simp only [Option.some.injEq, Prod.mk.injEq] at h
    obtain ⟨rfl, rfl⟩ := h
    obtain ⟨h1, h2⟩ := chooseB_bd hc
    have hb : (bankB d i).length = d.length / 2 := bankB_len h1
    obtain ⟨h3, h4⟩ := recs_bd (b := bankB d i) (bankB d i).length 13 0 (by omega)
    exact ⟨⟨h1, by simp only; omega, h2⟩, by omega⟩
theorem RL.size {m m' : JM} (h : RL m m') : m'.size = m.size := by unfold JM.size; rw [h.data]
theorem broke_id {l : JL} (h : l.broken = true) : l.broke = l := by cases l; simp_all [JL.broke]
theorem ref_rel {m m' : JM} {l : JL} (h : RL m m') (hb : m.off = true → l.broken = true) (o n : Nat) : refR m' l o n = refB m l o n := by
  unfold refR refB
  rw [h.size]
  cases hl : l.broken with
  | true => simp
  | false =>
    have : m.off = false := by
      cases ho : m.off with
      | false => rfl
      | true => rw [hb ho] at hl; cases hl
    rw [this]; simp
/-- both writers at once -/
theorem wr_rel {m m' : JM} {l l2 : JL} {e : Int} {W : List (Nat × UInt8)} {nn : Nat} (h : RL m m') (hb : m.off = true → l.broken = true) (he : e = 21 → l.broken = true ∨ m.off = true) {a b : JM × JL × Nat × Int}
    (ha : a = if e = 21 then (m, l.broke, 0, 21) else if e ≠ 0 then (m, l, 0, e) else if (wrB m W).2 = true then ((wrB m W).1, l2, nn, 0) else ((wrB m W).1, l.broke, 0, 21))
    (hbq : b = if e ≠ 0 then (m', l, 0, e) else if (wrR m' W).off = true then (wrR m' W, l.broke, 0, 21) else (wrR m' W, l2, nn, 0)) :
    b.2 = a.2 ∧ RL a.1 b.1 ∧ (a.1.off = true → a.2.1.broken = true) := by
  subst ha hbq
  by_cases h21 : e = 21
  · subst h21
    have hbr : l.broken = true := by
      rcases he rfl with h | h
      · exact h
      · exact hb h
    rw [if_pos rfl, if_pos (by decide), broke_id hbr]
    exact ⟨rfl, h, fun _ => hbr⟩
  rw [if_neg h21]
  by_cases h0 : e = 0
  · have hz : ¬ (e ≠ 0) := fun hh => hh h0
    rw [if_neg hz, if_neg hz]
    obtain ⟨h1, h2⟩ := RL.write W h
    cases ho : (wrR m' W).off with
    | true =>
      rw [ho] at h2
      rw [if_pos rfl, if_neg (by rw [h2]; decide)]
      exact ⟨rfl, h1, fun _ => rfl⟩
    | false =>
      rw [ho] at h2
      rw [if_neg (by decide), if_pos (show (wrB m W).2 = true from h2)]
      refine ⟨rfl, h1, fun hh => ?_⟩
      have := h1.off
      rw [ho] at this
      simp only at hh
      rw [hh] at this; cases this
  · rw [if_pos h0, if_pos h0]
    exact ⟨rfl, h, hb⟩
theorem refB_21 {m : JM} {l : JL} {o n : Nat} (h : refB m l o n = 21) : l.broken = true ∨ m.off = true := by
  unfold refB at h
  split at h
  · cases h
  · split at h
    · cases h
    · split at h
      · rename_i hh; simpa using hh
      · cases h
theorem app_rel {m m' : JM} {l : JL} (h : RL m m') (hb : m.off = true → l.broken = true) (p : List UInt8) : (rappJ m' l p).2 = (appendJ m l p).2 ∧ RL (appendJ m l p).1 (rappJ m' l p).1 ∧ ((appendJ m l p).1.off = true → (appendJ m l p).2.1.broken = true) := by
  have hW : appW m' l p = appW m l p := by unfold appW; rw [h.size]
  refine wr_rel (W := appW m l p) (e := refB m l l.fin p.length) h hb refB_21 rfl ?_
  unfold rappJ
  rw [ref_rel h hb, hW]
theorem cmp_rel {m m' : JM} {l : JL} (h : RL m m') (hb : m.off = true → l.broken = true) (p : List UInt8) : (rcmpJ m' l p).2 = (compactJ m l p).2 ∧ RL (compactJ m l p).1 (rcmpJ m' l p).1 ∧ ((compactJ m l p).1.off = true → (compactJ m l p).2.1.broken = true) := by
  have hW : cmpW m' l p = cmpW m l p := by unfold cmpW; rw [h.size]
  refine wr_rel (W := cmpW m l p) (e := refB m l 13 p.length) h hb refB_21 rfl ?_
  unfold rcmpJ
  rw [ref_rel h hb, hW]
theorem app_bd {m : JM} {l : JL} (h : LB l) (hbig : m.data.length < 70368744177664) (p : List UInt8) : LB (appendJ m l p).2.1 ∧ (appendJ m l p).1.data.length = m.data.length := by
  have hsz : m.size = m.data.length / 2 := rfl
  have hwl := wrB_length (appW m l p) m
  rcases refB_cases m l l.fin p.length with hr | hr | hr | ⟨hr, h1, h2, h3, h4⟩
  case inr.inr.inr =>
    simp only [appendJ, hr]
    rw [if_neg (by decide), if_neg (by decide)]
    split
    · exact ⟨⟨h.bank, by simp only; omega, h.gen⟩, hwl⟩
    · exact ⟨⟨h.bank, h.fin, h.gen⟩, hwl⟩
  case inr.inr.inl =>
    have e2 : appendJ m l p = (m, l.broke, 0, 21) := by simp only [appendJ, hr, if_true]
    rw [e2]; exact ⟨⟨h.bank, h.fin, h.gen⟩, rfl⟩
  all_goals
    have e2 : appendJ m l p = (m, l, 0, refB m l l.fin p.length) := by
      simp only [appendJ, hr]
      rw [if_neg (by decide), if_pos (by decide)]
    rw [e2]; exact ⟨h, rfl⟩
theorem cmp_bd {m : JM} {l : JL} (h : LB l) (hbig : m.data.length < 70368744177664) (p : List UInt8) : LB (compactJ m l p).2.1 ∧ (compactJ m l p).1.data.length = m.data.length := by
  have hsz : m.size = m.data.length / 2 := rfl
  have hwl := wrB_length (cmpW m l p) m
  have hgl : (l.gen + 1) % 18446744073709551616 < 18446744073709551616 := Nat.mod_lt _ (by decide)
  rcases refB_cases m l 13 p.length with hr | hr | hr | ⟨hr, h1, h2, h3, h4⟩
  case inr.inr.inr =>
    simp only [compactJ, hr]
    rw [if_neg (by decide), if_neg (by decide)]
    split
    · exact ⟨⟨by simp only; omega, by simp only; omega, hgl⟩, hwl⟩
    · exact ⟨⟨h.bank, h.fin, h.gen⟩, hwl⟩
  case inr.inr.inl =>
    have e2 : compactJ m l p = (m, l.broke, 0, 21) := by simp only [compactJ, hr, if_true]
    rw [e2]; exact ⟨⟨h.bank, h.fin, h.gen⟩, rfl⟩
  all_goals
    have e2 : compactJ m l p = (m, l, 0, refB m l 13 p.length) := by
      simp only [compactJ, hr]
      rw [if_neg (by decide), if_pos (by decide)]
    rw [e2]; exact ⟨h, rfl⟩
theorem RL.arm {m m' : JM} (h : RL m m') (n : Int) : RL {m with armed := true, left := n} {m' with armed := true, left := n} := ⟨h.data, rfl, h.off, fun _ => rfl⟩
theorem RL.on {m m' : JM} (h : RL m m') : RL {m with armed := false, left := 0, off := false} {m' with armed := false, left := 0, off := false} := ⟨h.data, rfl, rfl, fun _ => rfl⟩
theorem RL.flip {m m' : JM} (h : RL m m') (bit : Int) : RL (flipJ m bit) (flipJ m' bit) ∧ flipE m' bit = flipE m bit ∧ (flipJ m bit).off = m.off ∧ (flipJ m bit).data.length = m.data.length := by
  have e : flipOk m' bit ↔ flipOk m bit := by unfold flipOk; rw [h.data]
  unfold flipJ flipE
  by_cases hk : flipOk m bit
  · rw [if_pos hk, if_pos (e.2 hk), if_pos hk, if_pos (e.2 hk)]
    exact ⟨⟨by simp only [h.data], h.armed, h.off, h.left⟩, rfl, rfl, by simp only [xorBit_length]⟩
  · rw [if_neg hk, if_neg fun hh => hk (e.1 hh), if_neg hk, if_neg fun hh => hk (e.1 hh)]
    exact ⟨h, rfl, rfl, rfl⟩
theorem free_rel {m m' : JM} {l : JL} (h : RL m m') : freeJ m' l = freeJ m l := by unfold freeJ; rw [h.size]
end Go.Gh
