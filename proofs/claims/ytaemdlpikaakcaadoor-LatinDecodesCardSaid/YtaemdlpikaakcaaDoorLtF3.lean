/-
  Plain: bytes decoded; what is encoded is decoded, and again.
-/
import Derived.Test.YtaemdlpikaakcaaDoorLtX3
namespace Go.Gh
set_option linter.unusedSimpArgs false
set_option linter.unusedVariables false
set_option maxRecDepth 100000

def okByte (c : Int) : Bool := decide (32 ≤ c ∧ c ≤ 126 ∨ 161 ≤ c ∧ c ≤ 255)
theorem dtab1 : ((List.range 256).all fun c => sngN c == 0 || (decide (0 ≤ sngN c) && REP.contains (sngN c).toNat && putA (sngN c) == [(c : Int)])) = true := by kernel_rfl
theorem dtab2 : ((List.range 11).all fun i => (List.range 256).all fun d => dblN (193 + (i : Int)) d == 0 || (decide (0 ≤ dblN (193 + (i : Int)) d) && REP.contains (dblN (193 + (i : Int)) d).toNat && putA (dblN (193 + (i : Int)) d) == [193 + (i : Int), (d : Int)])) = true := by kernel_rfl
def dput (x : Nat) : List Int → Bool
  | [c] => sngN c == x && okByte c
  | [c, d] => sngN c == 0 && dblN c d == x && okByte c && okByte d
  | _ => false
theorem dtab3 : (REP.all fun x => dput x (putA x)) = true := by kernel_rfl
theorem rep_nz {x : Nat} (hx : x ∈ REP) : ¬ ((x : Int) = 0) := by have := (rep_le hx).1; omega
/-- what stands at the beginning -/
theorem getA_cases {l : List Int} (hl : ∀ n ∈ l, 0 ≤ n ∧ n ≤ 255) : getA l = (0, 0) ∨ ∃ (x n : Nat), x ∈ REP ∧ getA l = ((x : Int), (n : Int)) ∧ 1 ≤ n ∧ n ≤ l.length ∧ putA x = l.take n := by
  rw [get_same hl]
  match l, hl with
  | [], _ => exact .inl rfl
  | c :: t, hl =>
    have hc := hl c (by simp)
    obtain ⟨a, rfl⟩ : ∃ a : Nat, c = a := ⟨c.toNat, by omega⟩
    have h1 := List.all_eq_true.1 dtab1 a (List.mem_range.2 (by omega))
    simp only [getB]
    by_cases h0 : sngN (a : Int) = 0
    · rw [if_neg (by simpa using h0)]
      cases t with
      | nil => exact .inl rfl
      | cons d t =>
        have hd := hl d (by simp)
        simp only
        by_cases h2 : dblN (a : Int) d = 0
        · rw [if_neg (by simpa using h2)]; exact .inl rfl
        · rw [if_pos h2]
          have hr : ¬ ((a : Int) < 193 ∨ 203 < (a : Int)) := fun h => h2 (dbl_out h)
          obtain ⟨i, hi⟩ : ∃ i : Nat, (a : Int) = 193 + (i : Int) := ⟨a - 193, by omega⟩
          obtain ⟨e, rfl⟩ : ∃ e : Nat, d = e := ⟨d.toNat, by omega⟩
          have h3 := List.all_eq_true.1 (List.all_eq_true.1 dtab2 i (List.mem_range.2 (by omega))) e (List.mem_range.2 (by omega))
          rw [← hi] at h3
          simp only [Bool.or_eq_true, Bool.and_eq_true, decide_eq_true_eq, beq_iff_eq, List.contains_iff_mem, h2, false_or] at h3
          obtain ⟨⟨k1, k2⟩, k3⟩ := h3
          have k4 : ((dblN (a : Int) e).toNat : Int) = dblN a e := by omega
          refine .inr ⟨(dblN (a : Int) e).toNat, 2, k2, by rw [k4]; rfl, by omega, by simp, ?_⟩
          rw [k4, k3]; rfl
    · rw [if_pos h0]
      simp only [Bool.or_eq_true, Bool.and_eq_true, decide_eq_true_eq, beq_iff_eq, List.contains_iff_mem, h0, false_or] at h1
      obtain ⟨⟨k1, k2⟩, k3⟩ := h1
      have k4 : ((sngN (a : Int)).toNat : Int) = sngN a := by omega
      refine .inr ⟨(sngN (a : Int)).toNat, 1, k2, by rw [k4]; rfl, by omega, by simp, ?_⟩
      rw [k4, k3]; rfl
theorem okByte_le {c : Int} (h : okByte c = true) : 0 ≤ c ∧ c ≤ 255 := by
  unfold okByte at h
  rw [decide_eq_true_eq] at h
  omega
theorem put_ok' {x : Nat} (hx : x ∈ REP) : (∀ c ∈ putA x, okByte c = true) ∧ ∀ rest : List Int, (∀ n ∈ rest, 0 ≤ n ∧ n ≤ 255) → getA (putA x ++ rest) = ((x : Int), ((putA x).length : Int)) ∧ 1 ≤ (putA x).length := by
  have h := List.all_eq_true.1 dtab3 x hx
  have hnz := rep_nz hx
  unfold dput at h
  split at h
  · rename_i c he
    simp only [Bool.and_eq_true, beq_iff_eq] at h
    rw [he]
    refine ⟨fun d hd => by rw [List.mem_singleton.1 hd]; exact h.2, fun rest hr => ⟨?_, by simp⟩⟩
    have hc := okByte_le h.2
    rw [get_same (fun n hn => by
      rcases List.mem_append.1 hn with hn | hn
      · rw [List.mem_singleton.1 hn]; exact hc
      · exact hr n hn)]
    simp only [List.singleton_append, getB]
    rw [if_pos (by rw [h.1]; exact hnz), h.1]; rfl
  · rename_i c d he
    simp only [Bool.and_eq_true, beq_iff_eq] at h
    obtain ⟨⟨⟨h1, h2⟩, h3⟩, h4⟩ := h
    rw [he]
    have hcd : ∀ n ∈ [c, d], okByte n = true := fun n hn => by
      simp only [List.mem_cons, List.not_mem_nil, or_false] at hn
      rcases hn with rfl | rfl
      · exact h3
      · exact h4
    refine ⟨hcd, fun rest hr => ⟨?_, by simp⟩⟩
    rw [get_same (fun n hn => by
      rcases List.mem_append.1 hn with hn | hn
      · exact okByte_le (hcd n hn)
      · exact hr n hn)]
    simp only [List.cons_append, List.nil_append, getB]
    rw [if_neg (by simpa using h1), if_pos (by rw [h2]; exact hnz), h2]; rfl
  · cases h
/-- the characters of bytes; none if they are not well formed -/
def decA (p : List Int) : Option (List Int) :=
  if p = [] then some [] else if h : (getA p).2 ≤ 0 then none else if p.length < (getA p).2.toNat then none else (decA (p.drop (getA p).2.toNat)).map ((getA p).1 :: ·)
termination_by p.length
decreasing_by
  rw [List.length_drop]
  have : p.length ≠ 0 := fun h => by simp_all
  omega
theorem decA_nil : decA [] = some [] := by rw [decA]; rfl
theorem decA_zero {p : List Int} (hp : p ≠ []) (h : getA p = (0, 0)) : decA p = none := by
  rw [decA, if_neg hp, h]; rfl
theorem decA_cons {p : List Int} {x n : Nat} (hp : p ≠ []) (h : getA p = ((x : Int), (n : Int))) (h1 : 1 ≤ n) (h2 : n ≤ p.length) : decA p = (decA (p.drop n)).map ((x : Int) :: ·) := by
  rw [decA, if_neg hp, h]
  rw [dif_neg (by simp only; omega), if_neg (by simp only; omega)]
  simp only [Int.toNat_natCast]
theorem asI_cons (x : Nat) (l : List Nat) : asI (x :: l) = (x : Int) :: asI l := rfl
theorem encA_cons (x : Nat) (l : List Nat) : encA (x :: l) = putA x ++ encA l := by simp [encA]
theorem decA_enc : ∀ {l : List Nat}, (∀ x ∈ l, x ∈ REP) → (∀ c ∈ encA l, okByte c = true) ∧ decA (encA l) = some (asI l)
  | [], _ => ⟨by simp [encA], decA_nil⟩
  | x :: l, h => by
    obtain ⟨h1, h2⟩ := put_ok' (h x (by simp))
    obtain ⟨h3, h4⟩ := decA_enc (l := l) fun y hy => h y (by simp [hy])
    rw [encA_cons]
    obtain ⟨h5, h6⟩ := h2 (encA l) fun n hn => okByte_le (h3 n hn)
    refine ⟨fun c hc => (List.mem_append.1 hc).elim (h1 c) (h3 c), ?_⟩
    rw [decA_cons (fun e => by rw [List.append_eq_nil_iff] at e; rw [e.1] at h6; simp at h6) h5 h6 (by simp), List.drop_left, h4]
    rfl
theorem enc_decA : ∀ (k : Nat) {p : List Int}, p.length ≤ k → (∀ n ∈ p, 0 ≤ n ∧ n ≤ 255) → ∀ {m : List Int}, decA p = some m → ∃ l : List Nat, (∀ x ∈ l, x ∈ REP) ∧ m = asI l ∧ encA l = p
  | k, p, hk, hp, m, h => by
    by_cases h0 : p = []
    · subst h0
      rw [decA_nil] at h
      cases h
      exact ⟨[], by simp, rfl, rfl⟩
    · rcases getA_cases hp with hz | ⟨x, n, hx, hg, h1, h2, h3⟩
      · rw [decA_zero h0 hz] at h; cases h
      · rw [decA_cons h0 hg h1 h2] at h
        cases k with
        | zero => exact absurd (List.eq_nil_of_length_eq_zero (by omega)) h0
        | succ k =>
          cases hd : decA (p.drop n) with
          | none => rw [hd] at h; cases h
          | some m' =>
            rw [hd] at h
            obtain ⟨l, k1, k2, k3⟩ := enc_decA k (by rw [List.length_drop]; omega) (fun n hn => hp n (List.mem_of_mem_drop hn)) hd
            refine ⟨x :: l, fun y hy => ?_, ?_, ?_⟩
            · rcases List.mem_cons.1 hy with rfl | hy
              · exact hx
              · exact k1 y hy
            · rw [asI_cons, ← k2]; simpa using h.symm
            · rw [encA_cons, h3, k3, List.take_append_drop]
theorem decA_len : ∀ (k : Nat) {p : List Int}, p.length ≤ k → (∀ n ∈ p, 0 ≤ n ∧ n ≤ 255) → ∀ {m : List Int}, decA p = some m → m.length ≤ p.length ∧ ∀ r ∈ m, 0 ≤ idxN r := by
  intro k p hk hp m h
  obtain ⟨l, h1, rfl, h3⟩ := enc_decA k hk hp h
  refine ⟨?_, fun r hr => ?_⟩
  · rw [asI_len, ← h3]
    clear h3 h
    induction l with
    | nil => simp
    | cons x l ih =>
      have := ((put_ok' (h1 x (by simp))).2 [] (by simp)).2
      rw [encA_cons, List.length_append, List.length_cons]
      have := ih fun y hy => h1 y (by simp [hy])
      omega
  · simp only [asI, List.mem_map] at hr
    obtain ⟨x, hx, rfl⟩ := hr
    exact idx_of_mem (h1 x hx)
end Go.Gh
