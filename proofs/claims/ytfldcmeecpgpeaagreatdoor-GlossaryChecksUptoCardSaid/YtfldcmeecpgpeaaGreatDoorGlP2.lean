/-
  Plain: the fields of a line; the lines of a text and its diagnostics.
-/
import Derived.Test.YtfldcmeecpgpeaaGreatDoorGlF
import Derived.Test.YtfldcmeecpgpeaaGreatDoorSp
namespace Go.Gh
set_option linter.unusedSimpArgs false
set_option linter.unusedVariables false
set_option maxHeartbeats 4000000
open Go.RowKit Go.Lib
set_option maxRecDepth 100000
inductive QR where
  | ok (t : List UInt8) (j : Nat)
  | bad (i : Nat)
def QR.sh (k : Nat) : QR → QR
  | .ok t j => .ok t (j + k)
  | .bad i => .bad (i + k)
def qtd : List UInt8 → Nat → List UInt8 → QR
  | [], i, _ => .bad i
  | [b], i, o => if b = 34 then .ok o (i + 1) else if b = 92 then .bad i else if b < 32 ∨ b = 127 then .bad i else .bad (i + 1)
  | b :: c :: r, i, o => if b = 34 then (if c = 32 then .ok o (i + 1) else .bad (i + 1)) else if b = 92 then (if c = 34 ∨ c = 92 then qtd r (i + 2) (o ++ [c]) else if c = 110 then qtd r (i + 2) (o ++ [10]) else .bad i)
    else if b < 32 ∨ b = 127 then .bad i else qtd (c :: r) (i + 1) (o ++ [b])
theorem qtd_sh : ∀ (l : List UInt8) (i k : Nat) (o : List UInt8), qtd l (i + k) o = (qtd l i o).sh k
  | [], i, k, o => rfl
  | [b], i, k, o => by
    simp only [qtd]
    repeat' split
    all_goals simp [QR.sh] <;> omega
  | b :: c :: r, i, k, o => by
    simp only [qtd]
    rw [show i + k + 2 = i + 2 + k by omega, show i + k + 1 = i + 1 + k by omega, qtd_sh r (i + 2) k, qtd_sh r (i + 2) k, qtd_sh (c :: r) (i + 1) k]
    repeat' split
    all_goals first | rfl | (simp [QR.sh] <;> omega)
theorem qtd_ge : ∀ (l : List UInt8) (i : Nat) (o t : List UInt8) (j : Nat), qtd l i o = .ok t j → i + 1 ≤ j ∧ j ≤ i + l.length
  | [], i, o, t, j, h => by cases h
  | [b], i, o, t, j, h => by
    simp only [qtd] at h
    repeat' split at h
    all_goals cases h
    simp
  | b :: c :: r, i, o, t, j, h => by
    simp only [qtd] at h
    repeat' split at h
    all_goals first
      | (cases h; done)
      | (cases h; simp; done)
      | (have := qtd_ge r _ _ _ _ h; simp only [List.length_cons]; omega)
      | (have := qtd_ge (c :: r) _ _ _ _ h; simp only [List.length_cons] at this ⊢; omega)
theorem qtd_bad : ∀ (l : List UInt8) (i : Nat) (o : List UInt8) (j : Nat), qtd l i o = .bad j → i ≤ j ∧ j ≤ i + l.length
  | [], i, o, j, h => by cases h; simp
  | [b], i, o, j, h => by
    simp only [qtd] at h
    repeat' split at h
    all_goals cases h
    all_goals simp
  | b :: c :: r, i, o, j, h => by
    simp only [qtd] at h
    repeat' split at h
    all_goals first
      | (cases h; done)
      | (cases h; simp only [List.length_cons]; omega)
      | (have := qtd_bad r _ _ _ h; simp only [List.length_cons]; omega)
      | (have := qtd_bad (c :: r) _ _ _ h; simp only [List.length_cons] at this ⊢; omega)
theorem qtd_len : ∀ (l : List UInt8) (i : Nat) (o t : List UInt8) (j : Nat), qtd l i o = .ok t j → t.length ≤ o.length + l.length
  | [], i, o, t, j, h => by cases h
  | [b], i, o, t, j, h => by
    simp only [qtd] at h
    repeat' split at h
    all_goals cases h
    simp
  | b :: c :: r, i, o, t, j, h => by
    simp only [qtd] at h
    repeat' split at h
    all_goals first
      | (cases h; done)
      | (cases h; simp; done)
      | (have := qtd_len r _ _ _ _ h; simp only [List.length_cons, List.length_append, List.length_nil] at this ⊢; omega)
      | (have := qtd_len (c :: r) _ _ _ _ h; simp only [List.length_cons, List.length_append, List.length_nil] at this ⊢; omega)
theorem drop_cons {l : List UInt8} {i : Nat} (h : i < l.length) : l.drop i = l[i]! :: l.drop (i + 1) := by
  rw [List.drop_eq_getElem_cons h, getElem!_pos l i h]
section
variable {l : List UInt8} {i : Nat} (o : List UInt8)
theorem qat_end (h : l.length ≤ i) : qtd (l.drop i) i o = .bad i := by rw [List.drop_eq_nil_of_le h]; rfl
theorem qat_one (h : i + 1 = l.length) : qtd (l.drop i) i o = if l[i]! = 34 then .ok o (i + 1) else if l[i]! = 92 then .bad i else if l[i]! < 32 ∨ l[i]! = 127 then .bad i else .bad (i + 1) := by
  rw [drop_cons (by omega), List.drop_eq_nil_of_le (by omega)]; rfl
theorem qat_two (h : i + 1 < l.length) : qtd (l.drop i) i o = if l[i]! = 34 then (if l[i + 1]! = 32 then .ok o (i + 1) else .bad (i + 1)) else if l[i]! = 92 then (if l[i + 1]! = 34 ∨ l[i + 1]! = 92 then qtd (l.drop (i + 2)) (i + 2) (o ++ [l[i + 1]!]) else if l[i + 1]! = 110 then qtd (l.drop (i + 2)) (i + 2) (o ++ [10]) else .bad i)
    else if l[i]! < 32 ∨ l[i]! = 127 then .bad i else qtd (l.drop (i + 1)) (i + 1) (o ++ [l[i]!]) := by
  rw [drop_cons (i := i) (by omega), drop_cons h]; rfl
end
def wordb (b : UInt8) : Bool := decide (32 < b) && decide (b < 127) && decide (¬ b = 34)
def wrd : List UInt8 → Nat → List UInt8 → QR
  | [], i, o => .ok o i
  | b :: r, i, o => if b = 32 then .ok o i else if wordb b = true then wrd r (i + 1) (o ++ [b]) else .bad i
theorem wrd_sh : ∀ (l : List UInt8) (i k : Nat) (o : List UInt8), wrd l (i + k) o = (wrd l i o).sh k
  | [], i, k, o => rfl
  | b :: r, i, k, o => by
    simp only [wrd]
    rw [show i + k + 1 = i + 1 + k by omega, wrd_sh r (i + 1) k]
    repeat' split
    all_goals rfl
theorem wrd_ge : ∀ (l : List UInt8) (i : Nat) (o t : List UInt8) (j : Nat), wrd l i o = .ok t j → i ≤ j ∧ j ≤ i + l.length ∧ t = o ++ l.take (j - i)
  | [], i, o, t, j, h => by cases h; simp
  | b :: r, i, o, t, j, h => by
    simp only [wrd] at h
    repeat' split at h
    · cases h; simp
    · have := wrd_ge r _ _ _ _ h
      simp only [List.length_cons]
      refine ⟨by omega, by omega, ?_⟩
      rw [this.2.2, show j - i = (j - (i + 1)) + 1 by omega]; simp
    · cases h
theorem wrd_bad : ∀ (l : List UInt8) (i : Nat) (o : List UInt8) (j : Nat), wrd l i o = .bad j → i ≤ j ∧ j < i + l.length
  | [], i, o, j, h => by cases h
  | b :: r, i, o, j, h => by
    simp only [wrd] at h
    repeat' split at h
    · cases h
    · have := wrd_bad r _ _ _ h
      simp only [List.length_cons]; omega
    · cases h; simp
theorem wat_end {l : List UInt8} {i : Nat} (o : List UInt8) (h : l.length ≤ i) : wrd (l.drop i) i o = .ok o i := by rw [List.drop_eq_nil_of_le h]; rfl
theorem wat {l : List UInt8} {i : Nat} (o : List UInt8) (h : i < l.length) : wrd (l.drop i) i o = if l[i]! = 32 then .ok o i else if wordb l[i]! = true then wrd (l.drop (i + 1)) (i + 1) (o ++ [l[i]!]) else .bad i := by
  rw [drop_cons h]; rfl
structure Fd where
  t : List UInt8
  c : Nat
  q : Bool
deriving Inhabited
inductive FdR where
  | ok (l : List Fd)
  | bad (i : Nat)
def FdR.pre (o : List Fd) : FdR → FdR
  | .ok l => .ok (o ++ l)
  | .bad i => .bad i
theorem FdR.pre_nil (x : FdR) : x.pre [] = x := by cases x <;> rfl
theorem FdR.pre_pre (o p : List Fd) (x : FdR) : (x.pre p).pre o = x.pre (o ++ p) := by cases x <;> simp [FdR.pre]
def fld1 (b : UInt8) (r : List UInt8) (i : Nat) : QR := if b = 34 then qtd r (i + 1) [] else if wordb b = true then wrd r (i + 1) [b] else .bad i
def fldsN : Nat → List UInt8 → Nat → FdR
  | 0, _, _ => .ok []
  | _ + 1, [], _ => .ok []
  | n + 1, b :: r, i => if b = 32 then fldsN n r (i + 1) else if b = 35 then .ok [] else
    match fld1 b r i with
    | .bad k => .bad k
    | .ok t j => (fldsN n ((b :: r).drop (j - i)) j).pre [⟨t, i + 1, decide (b = 34)⟩]
theorem fld1_ge {b : UInt8} {r : List UInt8} {i j : Nat} {t : List UInt8} (h : fld1 b r i = .ok t j) : i + 1 ≤ j ∧ j ≤ i + 1 + r.length := by
  unfold fld1 at h
  repeat' split at h
  · have := qtd_ge _ _ _ _ _ h; omega
  · have := wrd_ge _ _ _ _ _ h; omega
  · cases h
theorem flds_fuel : ∀ (n : Nat) (l : List UInt8) (i : Nat), l.length ≤ n → fldsN n l i = fldsN l.length l i
  | n, [], i, _ => by cases n <;> rfl
  | 0, b :: r, i, h => by simp at h
  | n + 1, b :: r, i, h => by
    simp only [List.length_cons] at h ⊢
    simp only [fldsN]
    rw [flds_fuel n r (i + 1) (by omega)]
    split
    · rfl
    · split
      · rfl
      · split
        · rfl
        · rename_i t j e
          have hj := fld1_ge e
          rw [flds_fuel n _ j (by simp only [List.length_drop, List.length_cons]; omega), flds_fuel r.length _ j (by simp only [List.length_drop, List.length_cons]; omega)]
def flds (l : List UInt8) (i : Nat) : FdR := fldsN (l.drop i).length (l.drop i) i
theorem flds_end {l : List UInt8} {i : Nat} (h : l.length ≤ i) : flds l i = .ok [] := by unfold flds; rw [List.drop_eq_nil_of_le h]; rfl
theorem flds_at {l : List UInt8} {i : Nat} (h : i < l.length) : flds l i = if l[i]! = 32 then flds l (i + 1) else if l[i]! = 35 then .ok [] else
    match fld1 l[i]! (l.drop (i + 1)) i with
    | .bad k => .bad k
    | .ok t j => (flds l j).pre [⟨t, i + 1, decide (l[i]! = 34)⟩] := by
  unfold flds
  rw [drop_cons h]
  simp only [List.length_cons, fldsN]
  split
  · rfl
  · split
    · rfl
    · split
      · rfl
      · rename_i t j e
        have hj := fld1_ge e
        have hd : (l[i]! :: l.drop (i + 1)).drop (j - i) = l.drop j := by
          rw [← drop_cons h, List.drop_drop, show i + (j - i) = j by omega]
        simp only [List.length_drop] at hj
        rw [hd, flds_fuel _ _ _ (by simp only [List.length_drop]; omega)]
theorem flds_size {l : List UInt8} (n : Nat) : ∀ (i : Nat) (L : List Fd), l.length - i ≤ n → flds l i = .ok L → L.length + i ≤ l.length + (if l.length ≤ i then i else 0) ∧ ∀ f ∈ L, f.t.length ≤ l.length + 1 ∧ f.c ≤ l.length := by
  induction n with
  | zero =>
    intro i L h e
    rw [flds_end (by omega)] at e
    cases e
    simp; split <;> omega
  | succ n ih =>
    intro i L h e
    by_cases hi : i < l.length
    · rw [if_neg (by omega)]
      rw [flds_at hi] at e
      split at e
      · have := ih (i + 1) L (by omega) e
        refine ⟨?_, this.2⟩
        have h1 := this.1
        split at h1
        · have e2 : L = [] := by
            rw [flds_end (by omega)] at e; cases e; rfl
          rw [e2]; simp; omega
        · omega
      · split at e
        · cases e; simp; omega
        · split at e
          · cases e
          · rename_i t j e1
            have hj := fld1_ge e1
            simp only [List.length_drop] at hj
            cases e3 : flds l j with
            | bad k => rw [e3] at e; cases e
            | ok M =>
              rw [e3] at e
              cases e
              have h2 := ih j M (by omega) e3
              have ht : t.length ≤ l.length + 1 := by
                unfold fld1 at e1
                repeat' split at e1
                · have := qtd_len _ _ _ _ _ e1; simp only [List.length_drop, List.length_nil] at this; omega
                · have := (wrd_ge _ _ _ _ _ e1).2.2; rw [this]; simp; omega
                · cases e1
              refine ⟨?_, fun f hf => ?_⟩
              · have h3 := h2.1
                simp only [List.length_append, List.length_cons, List.length_nil]
                split at h3
                · have : M = [] := by rw [flds_end (by omega)] at e3; cases e3; rfl
                  rw [this]; simp; omega
                · omega
              · simp only [List.cons_append, List.nil_append, List.mem_cons] at hf
                rcases hf with rfl | hf
                · exact ⟨ht, by simp; omega⟩
                · exact h2.2 f hf
    · rw [flds_end (by omega)] at e
      cases e
      simp; split <;> omega
theorem flds_bad {l : List UInt8} (n : Nat) : ∀ (i k : Nat), l.length - i ≤ n → flds l i = .bad k → k ≤ l.length := by
  induction n with
  | zero =>
    intro i k h e
    rw [flds_end (by omega)] at e; cases e
  | succ n ih =>
    intro i k h e
    by_cases hi : i < l.length
    · rw [flds_at hi] at e
      split at e
      · exact ih (i + 1) k (by omega) e
      · split at e
        · cases e
        · split at e
          · rename_i k' e1
            cases e
            unfold fld1 at e1
            repeat' split at e1
            · have := qtd_bad _ _ _ _ e1; simp only [List.length_drop] at this; omega
            · have := wrd_bad _ _ _ _ e1; simp only [List.length_drop] at this; omega
            · cases e1; omega
          · rename_i t j e1
            have hj := fld1_ge e1
            cases e3 : flds l j with
            | bad k' => rw [e3] at e; cases e; exact ih j _ (by omega) e3
            | ok M => rw [e3] at e; cases e
    · rw [flds_end (by omega)] at e; cases e
def lns : List UInt8 → List (List UInt8)
  | [] => [[]]
  | b :: r => if b = 10 then [] :: lns r else (match lns r with | [] => [[b]] | x :: L => (b :: x) :: L)
theorem lns_ne : ∀ l : List UInt8, lns l ≠ []
  | [] => by simp [lns]
  | b :: r => by
    rw [lns]
    split
    · simp
    · split <;> simp
theorem lns_pre : ∀ {a l : List UInt8}, 10 ∉ a → ∃ x L, lns l = x :: L ∧ lns (a ++ l) = (a ++ x) :: L
  | [], l, _ => by
    cases h : lns l with
    | nil => exact absurd h (lns_ne l)
    | cons x L => exact ⟨x, L, rfl, h⟩
  | b :: a, l, h => by
    obtain ⟨x, L, e1, e2⟩ := lns_pre (a := a) (l := l) (fun hm => h (by simp [hm]))
    refine ⟨x, L, e1, ?_⟩
    rw [List.cons_append, lns, if_neg (fun e => h (by simp [e])), e2]; rfl
theorem lns_hit {a l : List UInt8} (h : 10 ∉ a) : lns (a ++ 10 :: l) = a :: lns l := by
  obtain ⟨x, L, e1, e2⟩ := lns_pre (l := 10 :: l) h
  rw [lns, if_pos rfl] at e1
  cases e1
  rw [e2]; simp
theorem lns_last {a : List UInt8} (h : 10 ∉ a) : lns a = [a] := by
  obtain ⟨x, L, e1, e2⟩ := lns_pre (l := []) h
  rw [List.append_nil] at e2
  cases e1
  rw [e2]; simp
theorem lns_len : ∀ l : List UInt8, (lns l).length ≤ l.length + 1 ∧ ∀ x ∈ lns l, x.length ≤ l.length
  | [] => by simp [lns]
  | b :: r => by
    have ih := lns_len r
    rw [lns]
    split
    · simp only [List.length_cons]
      refine ⟨by omega, fun x hx => ?_⟩
      rcases List.mem_cons.1 hx with rfl | hx
      · simp
      · have := ih.2 x hx; omega
    · split
      · rename_i h; exact absurd h (lns_ne r)
      · rename_i x L h
        rw [h] at ih
        simp only [List.length_cons] at ih ⊢
        refine ⟨by omega, fun y hy => ?_⟩
        rcases List.mem_cons.1 hy with rfl | hy
        · have := ih.2 x (by simp); simp; omega
        · have := ih.2 y (by simp [hy]); omega
theorem splitK_lns : ∀ (l : List UInt8) (k : Nat), l.count 10 ≤ k → splitK [10] 0 k l = lns l
  | [], k, _ => by
    cases k with
    | zero => rfl
    | succ k => rfl
  | b :: l, k, h => by
    have hge := index_ge l [10]
    by_cases hb : b = 10
    · subst hb
      cases k with
      | zero => simp at h
      | succ k =>
        have hi : index (10 :: l) [10] = 0 := by rw [index_cons, if_pos (by simp [List.isPrefixOf])]
        have ih := splitK_lns l k (by simp at h; omega)
        rw [splitK, hi, lns, if_pos rfl, ← ih]
        rfl
    · have hp : ([10] : List UInt8).isPrefixOf (b :: l) = false := by
        have hb' : (10 : UInt8) ≠ b := fun e => hb e.symm
        simp [List.isPrefixOf, hb']
      have hc : (b :: l).count 10 = l.count 10 := List.count_cons_of_ne hb
      have hi : index (b :: l) [10] = if index l [10] == -1 then -1 else index l [10] + 1 := by rw [index_cons, hp]; rfl
      cases k with
      | zero =>
        have h0 : 10 ∉ b :: l := by
          rw [← List.count_eq_zero]; omega
        rw [lns_last h0]; rfl
      | succ k =>
        have ih := splitK_lns l (k + 1) (by omega)
        rw [splitK] at ih ⊢
        rw [hi, lns, if_neg hb, ← ih]
        by_cases hm : index l [10] = -1
        · rw [hm]; rfl
        · have hm' : (index l [10] == -1) = false := by simpa using hm
          rw [hm']
          simp only [Bool.false_eq_true, if_false]
          have hm2 : (index l [10] + 1 == -1) = false := by simp; omega
          rw [hm2]
          simp only [Bool.false_eq_true, if_false]
          have e1 : (index l [10] + 1).toNat = (index l [10]).toNat + 1 := by omega
          rw [e1]
          simp [Nat.add_right_comm]
theorem splB_lns (l : List UInt8) : splB (strB l) (strB [10]) = (lns l).map strB ∧ countB (strB l) (strB [10]) + 1 = (lns l).length := by
  have hc : countB (strB l) (strB [10]) = l.count 10 := count_one 10 l
  have h1 := splitB_data (strB [10]) 0 (countB (strB l) (strB [10])) (strB l)
  have h2 : (splB (strB l) (strB [10])).map (·.data.toList) = lns l := by
    unfold splB
    rw [h1]
    exact splitK_lns l _ (by omega)
  have h3 := congrArg (List.map strB) h2
  have h4 : splB (strB l) (strB [10]) = (lns l).map strB := by
    rw [← h3, List.map_map]
    conv => lhs; rw [← List.map_id (splB (strB l) (strB [10]))]
    rfl
  refine ⟨h4, ?_⟩
  have h5 := splitB_all (strB [10]) (by decide) 0 _ (strB l) rfl
  have h6 := congrArg List.length h2
  unfold splB at h6
  simp only [List.length_map] at h6
  omega
inductive LnR where
  | ok (l : List Fd)
  | bad (col code : Nat)
def lineR (s : List UInt8) : LnR := if 1000 < s.length then .bad 1001 9 else match flds s 0 with
  | .ok l => .ok l
  | .bad i => .bad (i + 1) 4
structure Ln where
  n : Nat
  f : List Fd
deriving Inhabited
structure Dg where
  l : Nat
  c : Nat
  e : Nat
deriving Inhabited
def outF (L : List (List UInt8)) (n : Nat) : List Ln := (List.range n).filterMap fun i => match lineR L[i]! with
  | .ok (f :: l) => some ⟨i + 1, f :: l⟩
  | _ => none
def dgF (L : List (List UInt8)) (n : Nat) : List Dg := (List.range n).filterMap fun i => match lineR L[i]! with
  | .bad c e => some ⟨i + 1, c, e⟩
  | _ => none
theorem outF_succ (L : List (List UInt8)) (n : Nat) : outF L (n + 1) = outF L n ++ (match lineR L[n]! with | .ok (f :: l) => [⟨n + 1, f :: l⟩] | _ => []) := by
  unfold outF
  rw [List.range_succ, List.filterMap_append]
  congr 1
  simp only [List.filterMap_cons, List.filterMap_nil]
  split <;> rename_i h <;> split at h <;> first | rfl | (cases h; done) | (cases h; rfl) | skip
theorem dgF_succ (L : List (List UInt8)) (n : Nat) : dgF L (n + 1) = dgF L n ++ (match lineR L[n]! with | .bad c e => [⟨n + 1, c, e⟩] | _ => []) := by
  unfold dgF
  rw [List.range_succ, List.filterMap_append]
  congr 1
  simp only [List.filterMap_cons, List.filterMap_nil]
  split <;> rename_i h <;> split at h <;> first | rfl | (cases h; done) | (cases h; rfl) | skip
theorem outF_len (L : List (List UInt8)) (n : Nat) : (outF L n).length ≤ n := by
  have := List.length_filterMap_le (fun i => match lineR L[i]! with | .ok (f :: l) => some (⟨i + 1, f :: l⟩ : Ln) | _ => none) (List.range n)
  simpa [outF] using this
def splO (src : List UInt8) : List Ln := if 262144 < src.length then [] else outF (lns src) (lns src).length
def splD (src : List UInt8) : List Dg := if 262144 < src.length then [⟨1, 1, 9⟩] else (dgF (lns src) (lns src).length).take 50
theorem take_app50 {α : Type} (l : List α) (x : α) (k : Nat) : (l ++ [x]).take k = if (l.take k).length < k then l.take k ++ [x] else l.take k := by
  simp only [List.length_take]
  by_cases h : l.length < k
  · rw [if_pos (by omega), List.take_of_length_le (by simp; omega), List.take_of_length_le (by omega)]
  · rw [if_neg (by omega), List.take_append_of_le_length (by omega)]
end Go.Gh
