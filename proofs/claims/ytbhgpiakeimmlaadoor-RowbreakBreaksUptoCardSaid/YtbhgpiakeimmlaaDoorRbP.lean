/-
  Plain: row breaks of least cost; tables of least costs; certificates.
-/
import Derived.Test.YtbhgpiakeimmlaaDoorRbF
namespace Go.Gh
set_option linter.unusedSimpArgs false
set_option linter.unusedVariables false

/-- a paragraph, as far as row breaks ask: words, which rows fit, and their costs -/
structure DD where
  n : Nat
  fit : Nat → Nat → Bool
  row : Nat → Nat → Int
/-- the words i to j - 1 make a row that fits -/
def DD.ok (D : DD) (i j : Nat) : Prop := i < j ∧ j ≤ D.n ∧ D.fit i j = true
structure DD.Good (D : DD) : Prop where
  mono : ∀ i j, i < j → D.fit i (j + 1) = true → D.fit i j = true
  pos : ∀ i j, D.ok i j → 0 ≤ D.row i j
  ub : ∀ i j, D.ok i j → D.row i j ≤ 40000000
theorem DD.Good.down {D : DD} (G : D.Good) {i j : Nat} : ∀ (k : Nat), i < j → D.fit i (j + k) = true → D.fit i j = true
  | 0, _, h => h
  | k + 1, hi, h => G.down k hi (G.mono i (j + k) (by omega) h)

/-- the least of the costs that S tells, -1 if there is none -/
def Lst (S : Int → Prop) (x : Int) : Prop := (x = -1 ∧ ∀ c, ¬ S c) ∨ (0 ≤ x ∧ S x ∧ ∀ c, S c → x ≤ c)
theorem Lst.uniq {S : Int → Prop} {x y : Int} (h : Lst S x) (k : Lst S y) : x = y := by
  rcases h with ⟨rfl, h⟩ | ⟨h0, h1, h2⟩ <;> rcases k with ⟨rfl, k⟩ | ⟨k0, k1, k2⟩
  · rfl
  · exact absurd k1 (h _)
  · exact absurd h1 (k _)
  · exact Int.le_antisymm (h2 _ k1) (k2 _ h1)
theorem Lst.congr {S T : Int → Prop} {x : Int} (h : Lst S x) (e : ∀ c, S c ↔ T c) : Lst T x := by
  rcases h with ⟨h, k⟩ | ⟨h0, h1, h2⟩
  · exact .inl ⟨h, fun c hc => k c ((e c).2 hc)⟩
  · exact .inr ⟨h0, (e x).1 h1, fun c hc => h2 c ((e c).2 hc)⟩
theorem Lst.ge {S : Int → Prop} {x : Int} (h : Lst S x) : x = -1 ∨ 0 ≤ x := by
  rcases h with ⟨h, _⟩ | ⟨h, _⟩
  · exact .inl h
  · exact .inr h
theorem Lst.le {S : Int → Prop} {x c : Int} (h : Lst S x) (hc : S c) : 0 ≤ x ∧ x ≤ c := by
  rcases h with ⟨_, h⟩ | ⟨h0, _, h⟩
  · exact absurd hc (h c)
  · exact ⟨h0, h c hc⟩
theorem Lst.mem {S : Int → Prop} {x : Int} (h : Lst S x) (hx : x ≠ -1) : S x := by
  rcases h with ⟨h, _⟩ | ⟨_, h, _⟩
  · exact absurd h hx
  · exact h
theorem Lst.none {S : Int → Prop} (h : ∀ c, ¬ S c) : Lst S (-1) := .inl ⟨rfl, h⟩

def lst1 (acc x : Int) : Int := if x ≠ -1 ∧ (acc = -1 ∨ x < acc) then x else acc
theorem lst1_spec {S : Int → Prop} {acc x : Int} (h : Lst S acc) (hx : x = -1 ∨ 0 ≤ x) : Lst (fun c => S c ∨ (x ≠ -1 ∧ c = x)) (lst1 acc x) := by
  unfold lst1
  rcases h with ⟨rfl, h⟩ | ⟨h0, h1, h2⟩
  · by_cases e : x = -1
    · rw [if_neg (fun k => k.1 e)]
      exact .inl ⟨rfl, fun c hc => hc.elim (h c) fun k => k.1 e⟩
    · rw [if_pos ⟨e, .inl rfl⟩]
      refine .inr ⟨by omega, .inr ⟨e, rfl⟩, fun c hc => ?_⟩
      rcases hc with hc | ⟨_, rfl⟩
      · exact absurd hc (h c)
      · exact Int.le_refl _
  · by_cases e : x ≠ -1 ∧ (acc = -1 ∨ x < acc)
    · rw [if_pos e]
      refine .inr ⟨by omega, .inr ⟨e.1, rfl⟩, fun c hc => ?_⟩
      rcases hc with hc | ⟨_, rfl⟩
      · have := h2 c hc; omega
      · exact Int.le_refl _
    · rw [if_neg e]
      refine .inr ⟨h0, .inl h1, fun c hc => ?_⟩
      rcases hc with hc | ⟨k, rfl⟩
      · exact h2 c hc
      · rcases Int.lt_or_le c acc with h3 | h3
        · exact absurd ⟨k, .inr h3⟩ e
        · exact h3

/-! ### one row ahead -/
def bst1 (D : DD) (f : Nat → Int) (i : Nat) (acc : Int) (j : Nat) : Int :=
  if f j = -1 then acc else if acc = -1 ∨ D.row i j + f j < acc then D.row i j + f j else acc
def bstF (D : DD) (f : Nat → Int) (i : Nat) : Nat → Nat → Int → Int
  | 0, _, acc => acc
  | k + 1, j, acc => if D.fit i j = true then bstF D f i k (j + 1) (bst1 D f i acc j) else acc
def bst (D : DD) (f : Nat → Int) (i : Nat) : Int := bstF D f i (D.n - i) (i + 1) (-1)
theorem bst1_lst (D : DD) (f : Nat → Int) (i : Nat) (acc : Int) (j : Nat) (h0 : 0 ≤ D.row i j) (hf : f j = -1 ∨ 0 ≤ f j) : bst1 D f i acc j = lst1 acc (if f j = -1 then -1 else D.row i j + f j) := by
  unfold bst1 lst1
  by_cases e : f j = -1
  · rw [if_pos e, if_pos e, if_neg (fun k => k.1 rfl)]
  · rw [if_neg e, if_neg e]
    by_cases e2 : acc = -1 ∨ D.row i j + f j < acc
    · rw [if_pos e2, if_pos ⟨by omega, e2⟩]
    · rw [if_neg e2, if_neg (fun k => e2 k.2)]
theorem bstF_spec {D : DD} (G : D.Good) {f : Nat → Int} (hf : ∀ j, f j = -1 ∨ 0 ≤ f j) {i : Nat} : ∀ (k j : Nat) (acc : Int) (S : Int → Prop), i < j → j + k = D.n + 1 → Lst S acc →
    Lst (fun c => S c ∨ ∃ j', j ≤ j' ∧ D.ok i j' ∧ f j' ≠ -1 ∧ c = D.row i j' + f j') (bstF D f i k j acc)
  | 0, j, acc, S, hi, hk, h => by
    refine h.congr fun c => ⟨.inl, fun hc => hc.elim id fun ⟨j', h1, h2, _⟩ => ?_⟩
    have := h2.2.1; omega
  | k + 1, j, acc, S, hi, hk, h => by
    rw [bstF]
    by_cases hfit : D.fit i j = true
    · rw [if_pos hfit]
      have hok : D.ok i j := ⟨hi, by omega, hfit⟩
      have hp := G.pos i j hok
      rw [bst1_lst D f i acc j hp (hf j)]
      have hx : (if f j = -1 then (-1 : Int) else D.row i j + f j) = -1 ∨ 0 ≤ (if f j = -1 then (-1 : Int) else D.row i j + f j) := by
        rcases hf j with e | e
        · rw [if_pos e]; exact .inl rfl
        · rw [if_neg (by omega)]; right; omega
      refine (bstF_spec G hf k (j + 1) _ _ (by omega) (by omega) (lst1_spec h hx)).congr fun c => ?_
      constructor
      · rintro ((h1 | ⟨h1, h2⟩) | ⟨j', h1, h2, h3⟩)
        · exact .inl h1
        · by_cases e : f j = -1
          · rw [if_pos e] at h1; exact absurd rfl h1
          · rw [if_neg e] at h2
            exact .inr ⟨j, Nat.le_refl _, hok, e, h2⟩
        · exact .inr ⟨j', by omega, h2, h3⟩
      · rintro (h1 | ⟨j', h1, h2, h3, h4⟩)
        · exact .inl (.inl h1)
        · rcases Nat.eq_or_lt_of_le h1 with rfl | h1
          · refine .inl (.inr ?_)
            rw [if_neg h3]
            refine ⟨?_, h4⟩
            have := hf j; omega
          · exact .inr ⟨j', h1, h2, h3, h4⟩
    · rw [if_neg hfit]
      refine h.congr fun c => ⟨.inl, fun hc => hc.elim id fun ⟨j', h1, h2, _⟩ => ?_⟩
      refine absurd (G.down (j' - j) hi ?_) hfit
      rw [show j + (j' - j) = j' by omega]; exact h2.2.2
theorem bst_spec {D : DD} (G : D.Good) {f : Nat → Int} (hf : ∀ j, f j = -1 ∨ 0 ≤ f j) {i : Nat} (hi : i ≤ D.n) : Lst (fun c => ∃ j, D.ok i j ∧ f j ≠ -1 ∧ c = D.row i j + f j) (bst D f i) := by
  refine (bstF_spec G hf (D.n - i) (i + 1) (-1) (fun _ => False) (by omega) (by omega) (Lst.none fun _ h => h)).congr fun c => ?_
  constructor
  · rintro (h | ⟨j, _, h⟩)
    · exact h.elim
    · exact ⟨j, h⟩
  · rintro ⟨j, h⟩
    exact .inr ⟨j, h.1.1, h⟩

/-! ### row breaks -/
/-- row breaks from the word i on, and their cost -/
inductive Pth (D : DD) : Nat → List Nat → Int → Prop
  | nil : Pth D D.n [] 0
  | cons {i j : Nat} {l : List Nat} {c : Int} : D.ok i j → Pth D j l c → Pth D i (j :: l) (D.row i j + c)
theorem Pth.le {D : DD} {i : Nat} {l : List Nat} {c : Int} (h : Pth D i l c) : i ≤ D.n := by
  cases h with
  | nil => exact Nat.le_refl _
  | cons h _ => have := h.1; have := h.2.1; omega
theorem Pth.bnd {D : DD} (G : D.Good) {i : Nat} {l : List Nat} {c : Int} (h : Pth D i l c) : 0 ≤ c ∧ c ≤ l.length * 40000000 := by
  induction h with
  | nil => simp
  | cons h _ ih =>
    have := G.pos _ _ h
    have := G.ub _ _ h
    simp only [List.length_cons]
    omega
theorem Pth.uniq {D : DD} {i : Nat} {l : List Nat} {c c' : Int} (h : Pth D i l c) (k : Pth D i l c') : c = c' := by
  induction h generalizing c' with
  | nil => cases k; rfl
  | cons h _ ih =>
    cases k with
    | cons _ k2 => rw [ih k2]
/-- the least cost in exactly r rows -/
def DD.E (D : DD) : Nat → Nat → Int
  | 0, i => if i = D.n then 0 else -1
  | r + 1, i => bst D (D.E r) i
/-- the least cost in at most m rows -/
def DD.P (D : DD) : Nat → Nat → Int
  | 0, i => if i = D.n then 0 else -1
  | m + 1, i => if i = D.n then 0 else bst D (D.P m) i
theorem bst_far {D : DD} {f : Nat → Int} {i : Nat} (hi : D.n ≤ i) : bst D f i = -1 := by
  unfold bst
  rw [show D.n - i = 0 by omega]; rfl
theorem Lst.dom {S T : Int → Prop} {x : Int} (h : Lst S x) (h1 : ∀ c, S c → T c) (h2 : ∀ c, T c → ∃ c', S c' ∧ c' ≤ c) : Lst T x := by
  rcases h with ⟨rfl, h⟩ | ⟨k0, k1, k2⟩
  · refine .inl ⟨rfl, fun c hc => ?_⟩
    obtain ⟨c', h3, _⟩ := h2 c hc
    exact h _ h3
  · refine .inr ⟨k0, h1 _ k1, fun c hc => ?_⟩
    obtain ⟨c', h3, h4⟩ := h2 c hc
    exact Int.le_trans (k2 _ h3) h4
theorem E_spec {D : DD} (G : D.Good) : ∀ (r i : Nat), Lst (fun c => ∃ l, l.length = r ∧ Pth D i l c) (D.E r i)
  | 0, i => by
    rw [DD.E]
    split
    · rename_i h; subst h
      refine .inr ⟨Int.le_refl _, ⟨[], rfl, .nil⟩, ?_⟩
      rintro c ⟨l, h1, h2⟩
      exact (h2.bnd G).1
    · rename_i h
      refine .none ?_
      rintro c ⟨l, h1, h2⟩
      cases h2 with
      | nil => exact h rfl
      | cons => cases h1
  | r + 1, i => by
    have ih := E_spec G r
    rw [DD.E]
    by_cases hi : i ≤ D.n
    · refine (bst_spec G (fun j => (ih j).ge) hi).dom ?_ ?_
      · rintro c ⟨j, h1, h2, rfl⟩
        obtain ⟨l, h3, h4⟩ := (ih j).mem h2
        exact ⟨j :: l, by simp [h3], .cons h1 h4⟩
      · rintro c ⟨l, h1, h2⟩
        cases h2 with
        | nil => cases h1
        | cons h3 h4 =>
          rename_i j l c
          simp only [List.length_cons, Nat.add_right_cancel_iff] at h1
          obtain ⟨h5, h6⟩ := (ih j).le ⟨l, h1, h4⟩
          exact ⟨_, ⟨j, h3, by omega, rfl⟩, by omega⟩
    · rw [bst_far (by omega)]
      refine .none ?_
      rintro c ⟨l, h1, h2⟩
      have := h2.le; omega
theorem P_spec {D : DD} (G : D.Good) : ∀ (m i : Nat), Lst (fun c => ∃ l, l.length ≤ m ∧ Pth D i l c) (D.P m i)
  | 0, i => (E_spec G 0 i).congr fun c => ⟨fun ⟨l, h1, h2⟩ => ⟨l, Nat.le_of_eq h1, h2⟩, fun ⟨l, h1, h2⟩ => ⟨l, Nat.le_zero.1 h1, h2⟩⟩
  | m + 1, i => by
    have ih := P_spec G m
    rw [DD.P]
    by_cases hn : i = D.n
    · rw [if_pos hn]; subst hn
      refine .inr ⟨Int.le_refl _, ⟨[], by simp, .nil⟩, ?_⟩
      rintro c ⟨l, h1, h2⟩
      exact (h2.bnd G).1
    · rw [if_neg hn]
      by_cases hi : i ≤ D.n
      · refine (bst_spec G (fun j => (ih j).ge) hi).dom ?_ ?_
        · rintro c ⟨j, h1, h2, rfl⟩
          obtain ⟨l, h3, h4⟩ := (ih j).mem h2
          exact ⟨j :: l, by simp [h3], .cons h1 h4⟩
        · rintro c ⟨l, h1, h2⟩
          cases h2 with
          | nil => exact absurd rfl hn
          | cons h3 h4 =>
            rename_i j l c
            simp only [List.length_cons, Nat.add_le_add_iff_right] at h1
            obtain ⟨h5, h6⟩ := (ih j).le ⟨l, h1, h4⟩
            exact ⟨_, ⟨j, h3, by omega, rfl⟩, by omega⟩
      · rw [bst_far (by omega)]
        refine .none ?_
        rintro c ⟨l, h1, h2⟩
        have := h2.le; omega
theorem E_ge {D : DD} (G : D.Good) (r i : Nat) : D.E r i = -1 ∨ 0 ≤ D.E r i := (E_spec G r i).ge
theorem P_ge {D : DD} (G : D.Good) (m i : Nat) : D.P m i = -1 ∨ 0 ≤ D.P m i := (P_spec G m i).ge
theorem E_ub {D : DD} (G : D.Good) (r i : Nat) : D.E r i ≤ r * 40000000 := by
  rcases E_spec G r i with ⟨h, _⟩ | ⟨_, ⟨l, h1, h2⟩, _⟩
  · omega
  · have := (h2.bnd G).2; rw [h1] at this; exact this
theorem P_ub {D : DD} (G : D.Good) (m i : Nat) : D.P m i ≤ m * 40000000 := by
  rcases P_spec G m i with ⟨h, _⟩ | ⟨_, ⟨l, h1, h2⟩, _⟩
  · omega
  · have := (h2.bnd G).2
    have : (l.length : Int) * 40000000 ≤ m * 40000000 := by omega
    omega
theorem P_n {D : DD} (m : Nat) : D.P m D.n = 0 := by cases m <;> simp [DD.P]
/-- the least of the first numbers -/
def minE (f : Nat → Int) : Nat → Int
  | 0 => -1
  | k + 1 => lst1 (minE f k) (f k)
theorem minE_spec {f : Nat → Int} (hf : ∀ j, f j = -1 ∨ 0 ≤ f j) : ∀ k, Lst (fun c => ∃ r, r < k ∧ f r ≠ -1 ∧ c = f r) (minE f k)
  | 0 => .none fun c ⟨r, h, _⟩ => absurd h (Nat.not_lt_zero _)
  | k + 1 => by
    refine (lst1_spec (minE_spec hf k) (hf k)).congr fun c => ?_
    constructor
    · rintro (⟨r, h1, h2⟩ | ⟨h1, h2⟩)
      · exact ⟨r, by omega, h2⟩
      · exact ⟨k, by omega, h1, h2⟩
    · rintro ⟨r, h1, h2, h3⟩
      rcases Nat.lt_or_eq_of_le (Nat.le_of_lt_succ h1) with h | rfl
      · exact .inl ⟨r, h, h2, h3⟩
      · exact .inr ⟨h2, h3⟩
theorem minE_P {D : DD} (G : D.Good) (m i : Nat) : minE (fun r => D.E r i) (m + 1) = D.P m i := by
  refine (minE_spec (fun r => E_ge G r i) (m + 1)).dom ?_ ?_ |>.uniq (P_spec G m i)
  · rintro c ⟨r, h1, h2, rfl⟩
    obtain ⟨l, h3, h4⟩ := (E_spec G r i).mem h2
    exact ⟨l, by omega, h4⟩
  · rintro c ⟨l, h1, h2⟩
    obtain ⟨h3, h4⟩ := (E_spec G l.length i).le ⟨l, rfl, h2⟩
    exact ⟨_, ⟨l.length, by omega, by omega, rfl⟩, h4⟩

/-! ### the first of the best -/
def DD.cand (D : DD) (f : Nat → Int) (i : Nat) (x : Int) (j : Nat) : Prop := D.fit i j = true ∧ f j ≠ -1 ∧ D.row i j + f j = x
/-- the row breaks that are found -/
inductive Grd (D : DD) : Nat → Nat → List Nat → Prop
  | nil {i : Nat} : Grd D 0 i []
  | cons {r i j : Nat} {l : List Nat} : i < j → j ≤ D.n → D.cand (D.E r) i (D.E (r + 1) i) j → (∀ j', i < j' → j' < j → ¬ D.cand (D.E r) i (D.E (r + 1) i) j') → Grd D r j l → Grd D (r + 1) i (j :: l)
theorem Grd.len {D : DD} {r i : Nat} {l : List Nat} (h : Grd D r i l) : l.length = r := by
  induction h with
  | nil => rfl
  | cons _ _ _ _ _ ih => simp [ih]
theorem cand_ex {D : DD} (G : D.Good) {r i : Nat} (h : D.E (r + 1) i ≠ -1) : ∃ j, D.ok i j ∧ D.cand (D.E r) i (D.E (r + 1) i) j := by
  have hi : i ≤ D.n := by
    rcases Nat.lt_or_ge D.n i with h1 | h1
    · rw [DD.E, bst_far (by omega)] at h; exact absurd rfl h
    · exact h1
  have h2 := (bst_spec G (f := D.E r) (i := i) (fun j => E_ge G r j) hi).mem h
  obtain ⟨j, h3, h4, h5⟩ := h2
  exact ⟨j, h3, h3.2.2, h4, h5.symm⟩
/-- less by the order of letters, or the same -/
def lexle : List Nat → List Nat → Prop
  | [], _ => True
  | _ :: _, [] => False
  | a :: l, b :: k => a < b ∨ (a = b ∧ lexle l k)
theorem lexle_refl : ∀ l, lexle l l
  | [] => trivial
  | _ :: l => .inr ⟨rfl, lexle_refl l⟩
theorem lexle_anti : ∀ {l k : List Nat}, lexle l k → lexle k l → l = k
  | [], [], _, _ => rfl
  | [], _ :: _, _, h => h.elim
  | _ :: _, [], h, _ => h.elim
  | a :: l, b :: k, h, h' => by
    rcases h with h | ⟨rfl, h⟩ <;> rcases h' with h' | ⟨h2, h'⟩
    · omega
    · omega
    · omega
    · rw [lexle_anti h h']
theorem Grd.lex {D : DD} (G : D.Good) {r i : Nat} {l : List Nat} (h : Grd D r i l) (he : D.E r i ≠ -1) : Pth D i l (D.E r i) ∧ ∀ l', l'.length = r → Pth D i l' (D.E r i) → lexle l l' := by
  induction h with
  | nil =>
    rename_i i
    have hn : i = D.n := by
      rw [DD.E] at he
      by_cases h : i = D.n
      · exact h
      · rw [if_neg h] at he; exact absurd rfl he
    subst hn
    rw [DD.E, if_pos rfl]
    exact ⟨.nil, fun l' _ _ => trivial⟩
  | cons hi hj hc hno hg ih =>
    rename_i r i j l
    obtain ⟨h1, h2⟩ := ih hc.2.1
    have hok : D.ok i j := ⟨hi, hj, hc.1⟩
    refine ⟨?_, ?_⟩
    · have := Pth.cons hok h1
      rw [hc.2.2] at this; exact this
    · intro l' hl hp
      rw [← hc.2.2] at hp
      cases hp' : l' with
      | nil => rw [hp'] at hl; cases hl
      | cons j' l2 =>
        rw [hp'] at hp hl
        simp only [List.length_cons, Nat.add_right_cancel_iff] at hl
        generalize hx : D.row i j + D.E r j = x at hp
        have hx' : D.E (r + 1) i = x := by rw [← hx]; exact hc.2.2.symm
        cases hp with
        | cons h3 h4 =>
          rename_i c2
          obtain ⟨h5, h6⟩ := (E_spec G r j').le ⟨l2, hl, h4⟩
          have h7 : D.E (r + 1) i ≤ D.row i j' + D.E r j' := by
            obtain ⟨l3, h8, h9⟩ := (E_spec G r j').mem (by omega)
            exact ((E_spec G (r + 1) i).le ⟨j' :: l3, by simp [h8], .cons h3 h9⟩).2
          have h8 : D.E r j' = c2 := by omega
          have h9 : D.cand (D.E r) i (D.E (r + 1) i) j' := ⟨h3.2.2, by omega, by omega⟩
          rcases Nat.lt_or_ge j' j with h10 | h10
          · exact absurd h9 (hno j' h3.1 h10)
          · rcases Nat.lt_or_eq_of_le h10 with h11 | rfl
            · exact .inl h11
            · exact .inr ⟨rfl, h2 l2 hl (by rw [h8]; exact h4)⟩
/-- the row breaks that Break is to return, of R rows at most -/
structure Brk (D : DD) (R : Nat) (l : List Nat) (c : Int) : Prop where
  pth : Pth D 0 l c
  len : l.length ≤ R
  least : ∀ l' c', Pth D 0 l' c' → l'.length ≤ R → c ≤ c' ∧ (c' = c → l.length < l'.length ∨ (l.length = l'.length ∧ lexle l l'))
theorem Brk.uniq {D : DD} {R : Nat} {l k : List Nat} {c d : Int} (h : Brk D R l c) (h' : Brk D R k d) : l = k ∧ c = d := by
  obtain ⟨a1, a2⟩ := h.least k d h'.pth h'.len
  obtain ⟨b1, b2⟩ := h'.least l c h.pth h.len
  have e : c = d := Int.le_antisymm a1 b1
  refine ⟨?_, e⟩
  have a3 := a2 e.symm
  have b3 := b2 e
  rcases a3 with a3 | ⟨a3, a4⟩ <;> rcases b3 with b3 | ⟨b3, b4⟩
  · omega
  · omega
  · omega
  · exact lexle_anti a4 b4
theorem Grd.brk {D : DD} (G : D.Good) {R r : Nat} {l : List Nat} {c : Int} (h : Grd D r 0 l) (hr : r ≤ R) (hc : c ≠ -1) (hP : D.P R 0 = c) (hE : D.E r 0 = c) (hno : ∀ r', r' < r → D.E r' 0 ≠ c) : Brk D R l c := by
  obtain ⟨h1, h2⟩ := h.lex G (by omega)
  rw [hE] at h1 h2
  refine ⟨h1, by rw [h.len]; exact hr, fun l' c' hp hl => ?_⟩
  have h3 := (P_spec G R 0).le ⟨l', hl, hp⟩
  rw [hP] at h3
  refine ⟨h3.2, ?_⟩
  rintro rfl
  rw [h.len]
  have h4 := (E_spec G l'.length 0).le ⟨l', rfl, hp⟩
  have h5 : D.E l'.length 0 = c' := by
    obtain ⟨l3, h6, h7⟩ := (E_spec G l'.length 0).mem (by omega)
    have := (P_spec G R 0).le ⟨l3, by omega, h7⟩
    omega
  rcases Nat.lt_or_ge l'.length r with h6 | h6
  · exact absurd h5 (hno _ h6)
  · rcases Nat.lt_or_eq_of_le h6 with h7 | h7
    · exact .inl h7
    · exact .inr ⟨h7, h2 l' h7.symm hp⟩
/-! ### the reference's search: over the tables of at most so many rows -/
/-- m rows are needed for the least cost -/
def Strict (D : DD) (m i : Nat) : Prop := D.P m i ≠ -1 ∧ ∀ m', m' < m → D.P m' i ≠ D.P m i
theorem P_mono {D : DD} (G : D.Good) {m m' i : Nat} (h : m' ≤ m) (h1 : D.P m' i ≠ -1) : 0 ≤ D.P m i ∧ D.P m i ≤ D.P m' i := by
  obtain ⟨l, h2, h3⟩ := (P_spec G m' i).mem h1
  exact (P_spec G m i).le ⟨l, by omega, h3⟩
theorem P_E {D : DD} (G : D.Good) {m i : Nat} (h : D.E m i ≠ -1) : 0 ≤ D.P m i ∧ D.P m i ≤ D.E m i := by
  obtain ⟨l, h2, h3⟩ := (E_spec G m i).mem h
  exact (P_spec G m i).le ⟨l, by omega, h3⟩
theorem Strict.E {D : DD} (G : D.Good) {m i : Nat} (h : Strict D m i) : D.E m i = D.P m i := by
  obtain ⟨l, h2, h3⟩ := (P_spec G m i).mem h.1
  have h4 : l.length = m := by
    rcases Nat.lt_or_eq_of_le h2 with h5 | h5
    · have h6 := (P_spec G l.length i).le ⟨l, Nat.le_refl _, h3⟩
      have h7 := P_mono G (i := i) h2 (by omega)
      exact absurd (by omega) (h.2 _ h5)
    · exact h5
  have h5 := (E_spec G m i).le ⟨l, h4, h3⟩
  have h6 := P_E G (m := m) (i := i) (by omega)
  omega
theorem Strict.zero {D : DD} {m : Nat} (h : Strict D m D.n) : m = 0 := by
  rcases Nat.eq_zero_or_pos m with h1 | h1
  · exact h1
  · exact absurd (by rw [P_n, P_n]) (h.2 0 h1)
theorem Strict.pos {D : DD} {m i : Nat} (h : Strict D m i) (hi : i ≠ D.n) : ∃ k, m = k + 1 := by
  cases m with
  | zero => have := h.1; rw [DD.P, if_neg hi] at this; exact absurd rfl this
  | succ k => exact ⟨k, rfl⟩
theorem Strict.next {D : DD} (G : D.Good) {m i j : Nat} (h : Strict D (m + 1) i) (hok : D.ok i j) (hP : D.P m j ≠ -1) (he : D.row i j + D.P m j = D.P (m + 1) i) : Strict D m j := by
  refine ⟨hP, fun m' hm e => ?_⟩
  have h1 : D.P m' j ≠ -1 := by rw [e]; exact hP
  obtain ⟨l, h2, h3⟩ := (P_spec G m' j).mem h1
  have h4 := (P_spec G (m' + 1) i).le ⟨j :: l, by simpa using h2, .cons hok h3⟩
  have h5 := P_mono G (m := m + 1) (m' := m' + 1) (i := i) (by omega) (by omega)
  exact h.2 (m' + 1) (by omega) (by omega)
theorem Strict.cand {D : DD} (G : D.Good) {m i j : Nat} (h : Strict D (m + 1) i) (hi : i < j) (hj : j ≤ D.n) : D.cand (D.P m) i (D.P (m + 1) i) j ↔ D.cand (D.E m) i (D.E (m + 1) i) j := by
  rw [h.E G]
  constructor
  · rintro ⟨h1, h2, h3⟩
    have := (h.next G ⟨hi, hj, h1⟩ h2 h3).E G
    exact ⟨h1, by rw [this]; exact h2, by rw [this]; exact h3⟩
  · rintro ⟨h1, h2, h3⟩
    have h4 := P_E G h2
    obtain ⟨l, h5, h6⟩ := (P_spec G m j).mem (by omega)
    have h7 := (P_spec G (m + 1) i).le ⟨j :: l, by simpa using h5, .cons ⟨hi, hj, h1⟩ h6⟩
    exact ⟨h1, by omega, by omega⟩
/-- the least number of rows for the least cost -/
theorem strict_of {D : DD} {R c : Nat} (h1 : D.P R 0 ≠ -1) (h2 : D.P c 0 = D.P R 0) (h3 : ∀ m, 1 ≤ m → m < c → D.P m 0 ≠ D.P R 0) (hn : 0 < D.n) : Strict D c 0 := by
  refine ⟨by rw [h2]; exact h1, fun m hm => ?_⟩
  rcases Nat.eq_zero_or_pos m with rfl | h
  · rw [h2, DD.P, if_neg (by omega)]; exact fun e => h1 e.symm
  · rw [h2]; exact h3 m h hm
theorem Strict.brk {D : DD} (G : D.Good) {R m : Nat} {l : List Nat} (h : Strict D m 0) (hm : m ≤ R) (e : D.P m 0 = D.P R 0) (hg : Grd D m 0 l) : Brk D R l (D.P R 0) := by
  refine hg.brk G hm (by rw [← e]; exact h.1) rfl (by rw [h.E G, e]) fun r hr he => ?_
  have h1 := P_E G (m := r) (i := 0) (by rw [he, ← e]; exact h.1)
  have h2 := P_mono G (m := R) (m' := r) (i := 0) (by omega) (by omega)
  exact h.2 r hr (by omega)
/-! ### certificates -/
theorem cert {D : DD} {R : Nat} {h : Nat → Nat → Int} (h0 : ∀ k, k ≤ R → h k D.n = 0) (h1 : ∀ k i j, k < R → D.ok i j → h (k + 1) j ≠ -1 → h k i ≠ -1 ∧ h k i - D.row i j ≤ h (k + 1) j) :
    ∀ {i : Nat} {l : List Nat} {c : Int}, Pth D i l c → ∀ k, k + l.length ≤ R → h k i ≠ -1 ∧ h k i ≤ c := by
  intro i l c hp
  induction hp with
  | nil => intro k hk; rw [h0 k (by simpa using hk)]; omega
  | cons hok _ ih =>
    intro k hk
    simp only [List.length_cons] at hk
    obtain ⟨h2, h3⟩ := ih (k + 1) (by omega)
    obtain ⟨h4, h5⟩ := h1 k _ _ (by omega) hok h2
    exact ⟨h4, by omega⟩
theorem cert_P {D : DD} (G : D.Good) {R k i j : Nat} (hk : k < R) (hok : D.ok i j) (h : D.P (R - (k + 1)) j ≠ -1) : D.P (R - k) i ≠ -1 ∧ D.P (R - k) i - D.row i j ≤ D.P (R - (k + 1)) j := by
  obtain ⟨l, h1, h2⟩ := (P_spec G (R - (k + 1)) j).mem h
  have h3 := (P_spec G (R - k) i).le ⟨j :: l, by simp only [List.length_cons]; omega, .cons hok h2⟩
  omega
end Go.Gh
