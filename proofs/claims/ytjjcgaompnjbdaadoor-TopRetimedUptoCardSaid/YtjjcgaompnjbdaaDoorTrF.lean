/-
  Plain: frame rates, and what a frame becomes at another rate.
-/
import GoSem.Claim
namespace Go.Gh
set_option linter.unusedSimpArgs false
set_option linter.unusedVariables false
set_option maxHeartbeats 4000000

/-- the ticks of a frame -/
def tk (r : Int) : Int := if r = 1 then 5005 else if r = 2 then 5000 else if r = 3 then 4800 else if r = 4 then 4004 else if r = 5 then 4000 else if r = 6 then 2400 else if r = 7 then 2002 else 0
def cdr (r : Int) : Bool := decide (r = 4 ∨ r = 7)
theorem tk_range (r : Int) : 0 ≤ tk r ∧ tk r ≤ 5005 := by
  unfold tk
  (repeat' split) <;> omega
/-- the nearest quotient, half upwards -/
def rnd (n d : Int) : Int := if d ≤ 2 * (n % d) then n / d + 1 else n / d
theorem rnd_near {n d : Int} (hd : 0 < d) : -d < 2 * (d * rnd n d - n) ∧ 2 * (d * rnd n d - n) ≤ d := by
  have h1 := Int.emod_add_mul_ediv n d
  have h2 := Int.emod_nonneg n (Int.ne_of_gt hd)
  have h3 := Int.emod_lt_of_pos n hd
  unfold rnd
  split
  · rw [Int.mul_add]
    omega
  · omega
theorem rnd_exact {n d : Int} (hd : 0 < d) : rnd (n * d) d = n := by
  unfold rnd
  rw [Int.mul_emod_left, if_neg (by omega), Int.mul_ediv_cancel _ (Int.ne_of_gt hd)]
theorem rnd_nonneg {n d : Int} (hd : 0 < d) (hn : 0 ≤ n) : 0 ≤ rnd n d := by
  have := Int.ediv_nonneg hn (Int.le_of_lt hd)
  unfold rnd
  split <;> omega
theorem near_le {d a b x y : Int} (hd : 0 < d) (h : a ≤ b) (ha : 2 * (d * x - a) ≤ d) (hb : -d < 2 * (d * y - b)) : x ≤ y := by
  refine Int.not_lt.1 fun hh => ?_
  have : d * (y + 1) ≤ d * x := Int.mul_le_mul_of_nonneg_left (by omega) (Int.le_of_lt hd)
  rw [Int.mul_add] at this
  omega
theorem rnd_mono {a b d : Int} (hd : 0 < d) (h : a ≤ b) : rnd a d ≤ rnd b d := near_le hd h (rnd_near hd).2 (rnd_near hd).1
theorem rnd_step {a b d : Int} (hd : 0 < d) (h : a + d ≤ b) : rnd a d + 1 ≤ rnd b d := by
  have h1 := (rnd_near (n := a) hd).2
  have h2 := (rnd_near (n := b) hd).1
  refine near_le (d := d) (a := a + d) (b := b) hd h ?_ h2
  rw [Int.mul_add]
  omega
/-- there and back, if the frames do not become longer -/
theorem rnd_back {i a b : Int} (hb : 0 < b) (hab : b ≤ a) : rnd (rnd (i * a) b * b) a = i := by
  have h1 := rnd_near (n := i * a) hb
  have h2 := rnd_near (n := rnd (i * a) b * b) (d := a) (by omega)
  rcases Int.lt_or_eq_of_le hab with hlt | rfl
  · generalize rnd (i * a) b = x at *
    generalize rnd (x * b) a = y at *
    rw [Int.mul_comm b x] at h1
    have h3 : -(2 * a) < 2 * (a * y - i * a) ∧ 2 * (a * y - i * a) < 2 * a := by omega
    rw [Int.mul_comm i a, ← Int.mul_sub] at h3
    have h4 : -1 < y - i := by
      refine Int.not_le.1 fun hh => ?_
      have := Int.mul_le_mul_of_nonneg_left hh (Int.le_of_lt (show 0 < a by omega))
      omega
    have h5 : y - i < 1 := by
      refine Int.not_le.1 fun hh => ?_
      have := Int.mul_le_mul_of_nonneg_left hh (Int.le_of_lt (show 0 < a by omega))
      omega
    omega
  · rw [rnd_exact hb, rnd_exact hb]

/-! ### conversions: a number and an error -/
def timF (r f : Int) : Int × Int := if tk r = 0 then (0, 3) else if f < 0 ∨ 10378368000 / tk r < f then (0, 2) else (f * tk r, 0)
/-- the frame of a tick, rounded to the nearest -/
def frmF (r t : Int) : Int × Int := if tk r = 0 then (0, 3) else if t < 0 ∨ 10378368000 < t then (0, 2) else if 10378368000 < rnd t (tk r) * tk r then (0, 2) else (rnd t (tk r), 0)
def cnvF (a b f : Int) : Int × Int := if tk a = 0 ∨ tk b = 0 then (0, 3) else if (timF a f).2 = 0 then frmF b (timF a f).1 else (0, (timF a f).2)
/-- a span in another rate, with the times kept: its limits, and an error -/
def spnF (a b i o : Int) : (Int × Int) × Int :=
  if tk a = 0 ∨ tk b = 0 then ((0, 0), 3) else if o ≤ i then ((0, 0), 1) else if i < 0 ∨ 5184000 < o then ((0, 0), 2) else
  if (cnvF a b i).2 = 0 then
    if (cnvF a b o).2 = 0 then
      if 5184000 < max (cnvF a b o).1 ((cnvF a b i).1 + 1) then ((0, 0), 2) else (((cnvF a b i).1, max (cnvF a b o).1 ((cnvF a b i).1 + 1)), 0)
    else ((0, 0), (cnvF a b o).2)
  else ((0, 0), (cnvF a b i).2)
theorem cnv_eq {a b f : Int} (h : (cnvF a b f).2 = 0) : 0 < tk a ∧ 0 < tk b ∧ 0 ≤ f ∧ f * tk a ≤ 10378368000 ∧ (cnvF a b f).1 = rnd (f * tk a) (tk b) ∧ rnd (f * tk a) (tk b) * tk b ≤ 10378368000 ∧ f ≤ 10378368000 / tk a := by
  have ha := tk_range a
  have hb := tk_range b
  unfold cnvF at h ⊢
  split at h
  · cases h
  · rename_i h0
    rw [if_neg h0]
    split at h
    · rename_i h1
      rw [if_pos h1]
      unfold timF at h1 h ⊢
      rw [if_neg (by omega)] at h1 h ⊢
      split at h1
      · cases h1
      · rename_i h2
        rw [if_neg h2] at h ⊢
        have h3 : f ≤ 10378368000 / tk a := by omega
        have h4 : f * tk a ≤ 10378368000 := (Int.le_ediv_iff_mul_le (by omega)).1 h3
        have h5 : 0 ≤ f * tk a := Int.mul_nonneg (by omega) (by omega)
        unfold frmF at h ⊢
        rw [if_neg (by omega), if_neg (by simp only; omega)] at h ⊢
        simp only at h ⊢
        split at h
        · cases h
        · rename_i h6
          rw [if_neg h6]
          exact ⟨by omega, by omega, by omega, h4, rfl, by omega, h3⟩
    · rename_i h1; exact absurd h h1
theorem cnv_range {a b f : Int} (h : (cnvF a b f).2 = 0) : 0 ≤ (cnvF a b f).1 ∧ (cnvF a b f).1 ≤ 10378368000 := by
  obtain ⟨h1, h2, h3, h4, h5, h6, h7⟩ := cnv_eq h
  rw [h5]
  have h0 := rnd_nonneg h2 (Int.mul_nonneg h3 (Int.le_of_lt h1))
  have := Int.mul_le_mul_of_nonneg_left (show 1 ≤ tk b by omega) h0
  omega
/-- what a span becomes -/
structure SpOk (a b i o i' o' : Int) : Prop where
  ta : 0 < tk a
  tb : 0 < tk b
  old : 0 ≤ i ∧ i < o ∧ o ≤ 5184000
  new : 0 ≤ i' ∧ i' < o' ∧ o' ≤ 5184000
  ei : i' = rnd (i * tk a) (tk b)
  eo : o' = max (rnd (o * tk a) (tk b)) (i' + 1)
  ti : i * tk a ≤ 10378368000
  ti' : i' * tk b ≤ 10378368000
  di : i ≤ 10378368000 / tk a
  di' : i' ≤ 10378368000 / tk b
theorem spn_ok {a b i o : Int} {p : Int × Int} (h : spnF a b i o = (p, 0)) : SpOk a b i o p.1 p.2 := by
  unfold spnF at h
  split at h
  · cases h
  · split at h
    · cases h
    · split at h
      · cases h
      · split at h
        · rename_i h0 h1 h2 h3
          split at h
          · rename_i h4
            split at h
            · cases h
            · rename_i h5
              cases h
              obtain ⟨a1, a2, a3, a4, a5, a6, a7⟩ := cnv_eq h3
              obtain ⟨b1, b2, b3, b4, b5, b6, b7⟩ := cnv_eq h4
              rw [a5, b5] at h5
              have hn := rnd_nonneg a2 (Int.mul_nonneg a3 (Int.le_of_lt a1))
              have hd : rnd (i * tk a) (tk b) ≤ 10378368000 / tk b := (Int.le_ediv_iff_mul_le a2).2 a6
              refine ⟨a1, a2, ⟨a3, by omega, by omega⟩, ?_, a5, ?_, a4, ?_, a7, ?_⟩
              · simp only [a5, b5]; omega
              · simp only [a5, b5]
              · simp only [a5]; exact a6
              · simp only [a5]; exact hd
          · rename_i h4; exact absurd (congrArg Prod.snd h) h4
        · rename_i h3; exact absurd (congrArg Prod.snd h) h3
theorem SpOk.drift {a b i o i' o' : Int} (h : SpOk a b i o i' o') : 2 * (i' * tk b - i * tk a) ≤ tk b ∧ -2 * (i' * tk b - i * tk a) ≤ tk b := by
  have := rnd_near (n := i * tk a) h.tb
  rw [← h.ei, Int.mul_comm (tk b) i'] at this
  omega
theorem SpOk.mono {a b i o i' o' j u j' u' : Int} (h : SpOk a b i o i' o') (k : SpOk a b j u j' u') (hij : i ≤ j) : i' ≤ j' := by
  rw [h.ei, k.ei]
  exact rnd_mono h.tb (Int.mul_le_mul_of_nonneg_right hij (Int.le_of_lt h.ta))
/-- and back -/
theorem SpOk.back {a b i o i' o' i2 o2 : Int} (h : SpOk a b i o i' o') (k : SpOk b a i' o' i2 o2) (hab : tk b ≤ tk a) : i2 = i ∧ o2 = o := by
  have e1 : i2 = i := by rw [k.ei, h.ei]; exact rnd_back h.tb hab
  have hstep : rnd (i * tk a) (tk b) + 1 ≤ rnd (o * tk a) (tk b) := by
    refine rnd_step h.tb ?_
    have h1 : (i + 1) * tk a ≤ o * tk a := Int.mul_le_mul_of_nonneg_right (by have := h.old; omega) (Int.le_of_lt h.ta)
    rw [Int.add_mul] at h1
    omega
  have e2 : o' = rnd (o * tk a) (tk b) := by rw [h.eo, h.ei]; omega
  refine ⟨e1, ?_⟩
  rw [k.eo, e2, rnd_back h.tb hab, e1]
  have := h.old
  omega
end Go.Gh
