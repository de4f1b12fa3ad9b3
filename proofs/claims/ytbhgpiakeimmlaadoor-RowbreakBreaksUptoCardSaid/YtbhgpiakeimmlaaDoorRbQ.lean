/-
  Plain: what a paragraph's rows are long and cost.
-/
import Derived.Test.YtbhgpiakeimmlaaDoorRbP
namespace Go.Gh
set_option linter.unusedSimpArgs false
set_option linter.unusedVariables false
open Go.RowKit

def tkN (x : Tk) : Nat := (rns (strB x.t)).length
/-- the characters of the first k words -/
def smN (l : List Tk) (k : Nat) : Nat := ((l.take k).map tkN).sum
theorem smN_zero (l : List Tk) : smN l 0 = 0 := by simp [smN]
theorem smN_succ {l : List Tk} {k : Nat} (h : k < l.length) : smN l (k + 1) = smN l k + tkN l[k]! := by
  unfold smN
  rw [List.take_succ_eq_append_getElem h, List.map_append, List.sum_append, getElem!_pos l k h]
  simp
theorem smN_far {l : List Tk} {k : Nat} (h : l.length ≤ k) : smN l (k + 1) = smN l k := by
  unfold smN
  rw [List.take_of_length_le (by omega), List.take_of_length_le h]
theorem smN_mono (l : List Tk) (k : Nat) : smN l k ≤ smN l (k + 1) := by
  rcases Nat.lt_or_ge k l.length with h | h
  · rw [smN_succ h]; omega
  · rw [smN_far h]; omega
theorem smN_le (l : List Tk) : ∀ (d k : Nat), smN l k ≤ smN l (k + d)
  | 0, k => Nat.le_refl _
  | d + 1, k => Nat.le_trans (smN_le l d k) (smN_mono l (k + d))
theorem smN_le' {l : List Tk} {k j : Nat} (h : k ≤ j) : smN l k ≤ smN l j := by
  have := smN_le l (j - k) k
  rwa [show k + (j - k) = j by omega] at this
theorem smN_bd {l : List Tk} {b : Nat} (h : ∀ x ∈ l, tkN x ≤ b) : ∀ k, smN l k ≤ k * b
  | 0 => by rw [smN_zero]; omega
  | k + 1 => by
    have ih := smN_bd h k
    rcases Nat.lt_or_ge k l.length with h1 | h1
    · rw [smN_succ h1]
      have := h _ (by rw [getElem!_pos l k h1]; exact List.getElem_mem h1 : l[k]! ∈ l)
      rw [Nat.add_mul]; omega
    · rw [smN_far h1, Nat.add_mul]; omega
/-- the length of a row of the words i to j - 1 -/
def lenR (l : List Tk) (i j : Nat) : Int := (smN l j : Int) - smN l i + j - i - 1
def upN (a b : Int) : Int := ((a.toNat + b.toNat - 1) / b.toNat : Nat)
def aimF (t w : Int) : Int := if t < 1 ∨ 10000 < t ∨ w < 1 ∨ 32 < w then 0 else upN t (upN t w)
def tabS (t : Tab) (k : Nat) : Int := (tabL t)[k]!
def inn (n a b : Int) : Bool := decide (a ≤ n) && decide (n ≤ b)
def rowF (t : Tab) (aim len st : Int) : Int :=
  if inn aim 1 32 && inn len 1 32 && inn st (-1) 5 then t.rw + t.rg * (max (aim - len) (len - aim)) + (if 0 ≤ st then tabS t st.toNat else 0) else 0
def rowE (aim len st : Int) : Int := if inn aim 1 32 && inn len 1 32 && inn st (-1) 5 then 0 else 2
def aimE (t w : Int) : Int := if t < 1 ∨ 10000 < t ∨ w < 1 ∨ 32 < w then 2 else 0
def Par.aim (p : Par) : Int := aimF (lenR p.l 0 p.l.length) p.w
def Par.st (p : Par) (j : Nat) : Int := if j < p.l.length then p.l[j - 1]!.s else -1
def Par.fit (p : Par) (i j : Nat) : Bool := decide (lenR p.l i j ≤ p.w)
def Par.row (p : Par) (i j : Nat) : Int := rowF p.tb p.aim (lenR p.l i j) (p.st j)
/-- a paragraph, as row breaks see it -/
def Par.D (p : Par) : DD := ⟨p.l.length, p.fit, p.row⟩
theorem lenR_succ (l : List Tk) (i j : Nat) : lenR l i j ≤ lenR l i (j + 1) := by
  have := smN_mono l j
  unfold lenR; omega
theorem nOk_iff {n : Int} : nOk n = true ↔ 0 ≤ n ∧ n ≤ 1000000 := by simp [nOk]
theorem penF_ok {t : Tab} (h : penF t = 0) : (tabL t).all nOk = true := by
  unfold penF at h
  split at h
  · cases h
  · rename_i h1; simpa using h1
theorem tabS_ok {t : Tab} (h : (tabL t).all nOk = true) (k : Nat) : 0 ≤ tabS t k ∧ tabS t k ≤ 1000000 := by
  unfold tabS
  rcases Nat.lt_or_ge k (tabL t).length with h1 | h1
  · rw [getElem!_pos _ k h1]
    exact nOk_iff.1 (List.all_eq_true.1 h _ (List.getElem_mem h1))
  · have : (tabL t)[k]! = 0 := by simp [h1]
    omega
theorem rowF_bnd {t : Tab} (h : penF t = 0) (aim len st : Int) : 0 ≤ rowF t aim len st ∧ rowF t aim len st ≤ 40000000 := by
  unfold rowF
  have hall := penF_ok h
  split
  · rename_i h1
    simp only [inn, Bool.and_eq_true, decide_eq_true_eq] at h1
    have hg := tabS_ok hall 6
    have hr := tabS_ok hall 7
    have e6 : tabS t 6 = t.rg := rfl
    have e7 : tabS t 7 = t.rw := rfl
    have hs := tabS_ok hall st.toNat
    rw [e6] at hg
    rw [e7] at hr
    have hm : 0 ≤ max (aim - len) (len - aim) ∧ max (aim - len) (len - aim) ≤ 31 := by omega
    generalize max (aim - len) (len - aim) = m at hm
    have hp : 0 ≤ t.rg * m := Int.mul_nonneg hg.1 hm.1
    have hp2 : t.rg * m ≤ 1000000 * 31 := by
      refine Int.le_trans (Int.mul_le_mul_of_nonneg_right hg.2 hm.1) ?_
      exact Int.mul_le_mul_of_nonneg_left hm.2 (by decide)
    split <;> omega
  · omega
theorem parF_ok {p : Par} (h : parF p = 0) : tkF p.l = 0 ∧ p.l ≠ [] ∧ 1 ≤ p.w ∧ p.w ≤ 32 ∧ 1 ≤ p.r ∧ p.r ≤ 4 ∧ penF p.tb = 0 := by
  unfold parF at h
  split at h
  · rename_i h1; exact absurd h h1
  · rename_i h1
    split at h
    · cases h
    · rename_i h2
      split at h
      · cases h
      · rename_i h3
        refine ⟨Decidable.not_not.1 h1, h2, by omega, by omega, by omega, by omega, h⟩
theorem Par.good {p : Par} (h : parF p = 0) : p.D.Good where
  mono i j _ hf := by
    have h1 : lenR p.l i (j + 1) ≤ p.w := of_decide_eq_true hf
    have := lenR_succ p.l i j
    exact decide_eq_true (by omega)
  pos i j _ := (rowF_bnd (parF_ok h).2.2.2.2.2.2 _ _ _).1
  ub i j _ := (rowF_bnd (parF_ok h).2.2.2.2.2.2 _ _ _).2
theorem Par.pos {p : Par} (h : parF p = 0) : 0 < p.l.length := List.length_pos_iff.2 (parF_ok h).2.1
/-! ### the cost of row breaks -/
/-- rising, from a word on -/
def risF : Int → List Int → Bool
  | _, [] => true
  | f, x :: l => decide (f < x) && risF x l
/-- the costs of rows, and the error -/
def sumF (D : DD) : Nat → List Int → Int → Int × Int
  | _, [], s => (s, 0)
  | f, x :: l, s => if D.fit f x.toNat = true then sumF D x.toNat l (s + D.row f x.toNat) else (0, 11)
def lastF (l : List Int) : Int := l.getLast?.getD 0
def totF (D : DD) (R : Int) (l : List Int) : Int × Int :=
  if risF 0 l = true ∧ lastF l = D.n ∧ l ≠ [] then (if R < l.length then (0, 9) else sumF D 0 l 0) else (0, 1)
def costF (p : Par) (l : List Int) : Int × Int := if parF p ≠ 0 then (0, parF p) else totF p.D p.r l
theorem risF_ge : ∀ {l : List Int} {f : Int}, risF f l = true → ∀ x ∈ l, f < x
  | [], _, _, x, hx => by cases hx
  | y :: l, f, h, x, hx => by
    simp only [risF, Bool.and_eq_true, decide_eq_true_eq] at h
    rcases List.mem_cons.1 hx with rfl | hx
    · exact h.1
    · have := risF_ge h.2 x hx; omega
theorem risF_le : ∀ {l : List Int} {f : Int}, risF f l = true → l ≠ [] → ∀ x ∈ l, x ≤ lastF l
  | [], _, _, h, _, _ => absurd rfl h
  | [y], f, _, _, x, hx => by simp [lastF] at hx ⊢; omega
  | y :: z :: l, f, h, _, x, hx => by
    simp only [risF, Bool.and_eq_true, decide_eq_true_eq] at h
    have ih := fun x hx => risF_le (l := z :: l) (f := y) (by simp [risF, h.2]) (by simp) x hx
    have e : lastF (y :: z :: l) = lastF (z :: l) := by simp [lastF, List.getLast?_cons_cons]
    rw [e]
    rcases List.mem_cons.1 hx with rfl | hx
    · have := ih z (by simp); omega
    · exact ih x hx
def natsI (l : List Nat) : List Int := l.map fun (n : Nat) => (n : Int)
theorem sumF_pth {D : DD} : ∀ {l : List Int} {f : Nat} {s c : Int}, risF f l = true → lastF l = D.n → l ≠ [] → sumF D f l s = (c, 0) → ∃ k, l = natsI k ∧ Pth D f k (c - s)
  | [], _, _, _, _, _, h, _ => absurd rfl h
  | x :: l, f, s, c, hr, hl, _, hs => by
    have hle := risF_le hr (by simp) x (by simp)
    simp only [risF, Bool.and_eq_true, decide_eq_true_eq] at hr
    rw [sumF] at hs
    split at hs
    · rename_i hfit
      have hx : ((x.toNat : Nat) : Int) = x := by omega
      have hok : D.ok f x.toNat := ⟨by omega, by omega, hfit⟩
      cases l with
      | nil =>
        have hl' : x = D.n := by simpa [lastF] using hl
        rw [sumF] at hs
        simp only [Prod.mk.injEq, and_true] at hs
        refine ⟨[x.toNat], by simp [natsI, hx], ?_⟩
        have e : x.toNat = D.n := by omega
        rw [e] at hok hs ⊢
        have := Pth.cons hok .nil
        rwa [show c - s = D.row f D.n + 0 by omega]
      | cons y l =>
        have e : lastF (x :: y :: l) = lastF (y :: l) := by simp [lastF, List.getLast?_cons_cons]
        obtain ⟨k, h1, h2⟩ := sumF_pth (l := y :: l) (f := x.toNat) (by rw [hx]; exact hr.2) (by rw [← e]; exact hl) (by simp) hs
        refine ⟨x.toNat :: k, by rw [h1]; simp [natsI, hx], ?_⟩
        have := Pth.cons hok h2
        rwa [show c - s = D.row f x.toNat + (c - (s + D.row f x.toNat)) by omega]
    · cases hs
theorem Pth.ris {D : DD} {i : Nat} {l : List Nat} {c : Int} (h : Pth D i l c) : risF i (natsI l) = true ∧ (l = [] → i = D.n) ∧ (l ≠ [] → lastF (natsI l) = D.n) ∧ ∀ s, sumF D i (natsI l) s = (s + c, 0) := by
  induction h with
  | nil => exact ⟨rfl, fun _ => rfl, fun h => absurd rfl h, fun s => by simp [natsI, sumF]⟩
  | cons hok h ih =>
    rename_i i j l c
    obtain ⟨h1, h2, h3, h4⟩ := ih
    refine ⟨?_, fun h => (by cases h), fun _ => ?_, fun s => ?_⟩
    · simp only [natsI, List.map_cons, risF, Bool.and_eq_true, decide_eq_true_eq]
      exact ⟨by have := hok.1; omega, h1⟩
    · cases l with
      | nil => rw [h2 rfl] ; simp [natsI, lastF]
      | cons y l =>
        have := h3 (by simp)
        simp only [natsI, List.map_cons, lastF, List.getLast?_cons_cons] at this ⊢
        exact this
    · simp only [natsI, List.map_cons, sumF, Int.toNat_natCast]
      rw [if_pos hok.2.2]
      have := h4 (s + D.row i j)
      simp only [natsI] at this
      rw [this, Int.add_assoc]
theorem totF_pth {D : DD} {R : Int} {l : List Int} {c : Int} (h : totF D R l = (c, 0)) : ∃ k, l = natsI k ∧ Pth D 0 k c ∧ (l.length : Int) ≤ R := by
  unfold totF at h
  split at h
  · rename_i h1
    split at h
    · cases h
    · rename_i h2
      obtain ⟨k, h3, h4⟩ := sumF_pth (f := 0) h1.1 h1.2.1 h1.2.2 h
      exact ⟨k, h3, by simpa using h4, by omega⟩
  · cases h
theorem Pth.tot {D : DD} {R : Int} {l : List Nat} {c : Int} (h : Pth D 0 l c) (hn : 0 < D.n) (hl : (l.length : Int) ≤ R) : totF D R (natsI l) = (c, 0) := by
  obtain ⟨h1, h2, h3, h4⟩ := h.ris
  have hne : l ≠ [] := fun e => by have := h2 e; omega
  unfold totF
  rw [if_pos ⟨h1, h3 hne, by simpa [natsI] using hne⟩, if_neg (by simp [natsI]; omega), h4]
  simp
theorem sumF_err {D : DD} : ∀ {l : List Int} {f : Nat} {s c e : Int}, sumF D f l s = (c, e) → e ≠ 0 → c = 0
  | [], _, _, _, _, h, he => by simp [sumF] at h; omega
  | x :: l, f, s, c, e, h, he => by
    rw [sumF] at h
    split at h
    · exact sumF_err h he
    · simp only [Prod.mk.injEq] at h; exact h.1.symm
theorem costF_err {p : Par} {l : List Int} {c e : Int} (h : costF p l = (c, e)) (he : e ≠ 0) : c = 0 := by
  unfold costF at h
  split at h
  · simp only [Prod.mk.injEq] at h; exact h.1.symm
  · unfold totF at h
    split at h
    · split at h
      · simp only [Prod.mk.injEq] at h; exact h.1.symm
      · exact sumF_err h he
    · simp only [Prod.mk.injEq] at h; exact h.1.symm
/-- what Break is to return -/
def BrkOut (p : Par) (l : List Nat) (c : Int) (e : Int) : Prop :=
  (parF p ≠ 0 ∧ e = parF p ∧ l = [] ∧ c = 0) ∨
  (parF p = 0 ∧ p.D.P p.r.toNat 0 = -1 ∧ e = 11 ∧ l = [] ∧ c = 0) ∨
  (parF p = 0 ∧ e = 0 ∧ c = p.D.P p.r.toNat 0 ∧ Brk p.D p.r.toNat l c)
end Go.Gh
