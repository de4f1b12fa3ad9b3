/-
  Plain: line feeds as blanks; phrases; what a text contains.
-/
import Derived.Test.YtfldcmeecpgpeaaGreatDoorGlC4
import Derived.Test.YtfldcmeecpgpeaaGreatDoorLc
namespace Go.Gh
set_option linter.unusedSimpArgs false
set_option linter.unusedVariables false
set_option maxHeartbeats 4000000
open Go.RowKit Go.Lib
set_option maxRecDepth 100000
def rpl (l : List UInt8) : List UInt8 := l.map fun b => if b = 10 then 32 else b
theorem rpl_len (l : List UInt8) : (rpl l).length = l.length := by simp [rpl]
theorem rpl_id : ∀ {l : List UInt8}, 10 ∉ l → rpl l = l
  | [], _ => rfl
  | b :: l, h => by
    have h1 : ¬ b = 10 := fun e => h (by simp [e])
    have h2 : 10 ∉ l := fun e => h (by simp [e])
    show (if b = 10 then 32 else b) :: rpl l = _
    rw [if_neg h1, rpl_id h2]
theorem rpl_app (a b : List UInt8) : rpl (a ++ b) = rpl a ++ rpl b := by simp [rpl]
theorem index_cons (b : UInt8) (l sub : List UInt8) : index (b :: l) sub = if sub.isPrefixOf (b :: l) = true then 0 else if index l sub == -1 then -1 else index l sub + 1 := by rw [index]
theorem replaceK_rpl : ∀ (l : List UInt8) (k : Nat), l.count 10 ≤ k → replaceK [10] [32] k l = rpl l
  | [], k, _ => by
    cases k with
    | zero => rfl
    | succ k => rfl
  | b :: l, k, h => by
    have hge := index_ge l [10]
    by_cases hb : b = 10
    · subst hb
      cases k with
      | zero => simp at h
      | succ k =>
        have hi : index (10 :: l) [10] = 0 := by rw [index_cons, if_pos (by simp [List.isPrefixOf])]
        rw [replaceK, hi]
        have ih := replaceK_rpl l k (by simp at h; omega)
        simp [rpl]
        rw [ih]; rfl
    · have hp : ([10] : List UInt8).isPrefixOf (b :: l) = false := by
        have hb' : (10 : UInt8) ≠ b := fun e => hb e.symm
        simp [List.isPrefixOf, hb']
      have hc : (b :: l).count 10 = l.count 10 := List.count_cons_of_ne hb
      have hi : index (b :: l) [10] = if index l [10] == -1 then -1 else index l [10] + 1 := by rw [index_cons, hp]; rfl
      cases k with
      | zero =>
        have h0 : 10 ∉ b :: l := by
          rw [← List.count_eq_zero]; omega
        rw [rpl_id h0]; rfl
      | succ k =>
        have ih := replaceK_rpl l (k + 1) (by omega)
        rw [replaceK] at ih ⊢
        rw [hi]
        by_cases hm : index l [10] = -1
        · rw [hm] at ih ⊢
          simp only [beq_self_eq_true, if_true] at ih ⊢
          show b :: l = (if b = 10 then 32 else b) :: rpl l
          rw [if_neg hb, ← ih]
        · have hm' : (index l [10] == -1) = false := by simpa using hm
          rw [hm'] at ih ⊢
          simp only [Bool.false_eq_true, if_false] at ih ⊢
          have hm2 : (index l [10] + 1 == -1) = false := by simp; omega
          rw [hm2]
          simp only [Bool.false_eq_true, if_false]
          have e1 : (index l [10] + 1).toNat = (index l [10]).toNat + 1 := by omega
          rw [e1]
          show _ = (if b = 10 then 32 else b) :: rpl l
          rw [if_neg hb, ← ih]
          simp [Nat.add_right_comm]
theorem replaceAll_rpl (l : List UInt8) : replaceAll l [10] [32] = rpl l := by
  unfold replaceAll replace
  rw [if_neg (by decide)]
  refine replaceK_rpl l _ ?_
  unfold replaceNum
  rw [if_pos (.inl (by decide)), count_one]
  exact Nat.le_refl _
def dblF : List UInt8 → Bool
  | a :: b :: r => (a == 32 && b == 32) || dblF (b :: r)
  | _ => false
theorem contains_cons (b : UInt8) (l sub : List UInt8) : contains (b :: l) sub = (sub.isPrefixOf (b :: l) || contains l sub) := by
  unfold contains
  rw [index_cons]
  have hge := index_ge l sub
  cases hp : sub.isPrefixOf (b :: l) with
  | true => simp
  | false =>
    simp only [Bool.false_eq_true, if_false, Bool.false_or]
    by_cases hm : index l sub = -1
    · rw [hm]; rfl
    · have hm' : (index l sub == -1) = false := by simpa using hm
      rw [hm']
      simp only [Bool.false_eq_true, if_false]
      rw [decide_eq_true (show (0 : Int) ≤ index l sub + 1 by omega), decide_eq_true (show (0 : Int) ≤ index l sub by omega)]
theorem contains_dbl : ∀ l : List UInt8, contains l [32, 32] = dblF l
  | [] => rfl
  | [a] => by rw [contains_cons]; simp [List.isPrefixOf, dblF]; rfl
  | a :: b :: r => by
    rw [contains_cons, contains_dbl (b :: r), dblF]
    congr 1
    simp only [List.isPrefixOf, Bool.and_true]
    rw [Bool.beq_comm (a := 32) (b := a), Bool.beq_comm (a := 32) (b := b)]
theorem dblF_iff : ∀ l : List UInt8, dblF l = true ↔ ∃ i, i + 1 < l.length ∧ l[i]! = 32 ∧ l[i + 1]! = 32
  | [] => by simp [dblF]
  | [a] => by simp [dblF]
  | a :: b :: r => by
    rw [dblF, Bool.or_eq_true, Bool.and_eq_true, beq_iff_eq, beq_iff_eq, dblF_iff (b :: r)]
    constructor
    · rintro (⟨h1, h2⟩ | ⟨i, h1, h2, h3⟩)
      · exact ⟨0, by simp, by simpa using h1, by simpa using h2⟩
      · exact ⟨i + 1, by simpa using h1, by simpa using h2, by simpa using h3⟩
    · rintro ⟨i, h1, h2, h3⟩
      cases i with
      | zero => exact .inl ⟨by simpa using h2, by simpa using h3⟩
      | succ i => exact .inr ⟨i, by simpa using h1, by simpa using h2, by simpa using h3⟩
def phrB (l : List UInt8) : Bool := vldB (strB l) && !(l == []) && !(l[0]! == 32) && !(l[l.length - 1]! == 32) && !dblF l && decide (l.length ≤ 400)
theorem fold_ascii_table : (REP.all fun x => decide (32 ≤ foldN x ∧ foldN x ≤ 126)) = true := by kernel_rfl
theorem fold_ascii {x : Nat} (hx : x ∈ REP) : 32 ≤ foldN x ∧ foldN x ≤ 126 := by
  have := List.all_eq_true.1 fold_ascii_table x hx
  simpa using this
def fcs (l : List UInt8) : List Nat := (charL (strB l)).map foldN
theorem fcs_rep (l : List UInt8) : ∀ x ∈ fcs l, x ∈ REP := fun x hx => by
  obtain ⟨y, hy, rfl⟩ := List.mem_map.1 hx
  exact (fold_char (charL_mem _ y hy)).1
theorem fcs_ascii (l : List UInt8) : ∀ x ∈ fcs l, 32 ≤ x ∧ x ≤ 126 := fun x hx => by
  obtain ⟨y, hy, rfl⟩ := List.mem_map.1 hx
  exact fold_ascii (charL_mem _ y hy)
theorem foldB_fcs (l : List UInt8) : foldB (strB l) = (fcs l).map UInt8.ofNat := by
  have key : ∀ m : List Nat, (∀ x ∈ m, x ∈ REP ∧ x ≤ 126) → m.flatMap encL = m.map UInt8.ofNat := by
    intro m
    induction m with
    | nil => intro _; rfl
    | cons x m ih =>
      intro h
      rw [List.flatMap_cons, List.map_cons, ih fun y hy => h y (by simp [hy]), encL_eq (h x (by simp)).1, if_pos (by have := (h x (by simp)).2; omega)]
      rfl
  unfold foldB
  exact key _ fun x hx => ⟨fcs_rep l x hx, (fcs_ascii l x hx).2⟩
theorem rns_fold (l : List UInt8) : rns (strB (foldB (strB l))) = fcs l := rns_enc (l := fcs l) (fcs_rep l)
theorem charL_fold (l : List UInt8) : charL (strB (foldB (strB l))) = fcs l := by
  unfold charL
  rw [rns_fold, if_pos]
  exact vldB_of fun x hx => by rw [rns_fold] at hx; exact fcs_rep l x hx
theorem foldB_len (l : List UInt8) : (foldB (strB l)).length = (fcs l).length := by rw [foldB_fcs]; simp
theorem foldB_at {l : List UInt8} {i : Nat} (h : i < (fcs l).length) : ((foldB (strB l))[i]!).toNat = (fcs l)[i]! := by
  have h2 : i < (foldB (strB l)).length := by rw [foldB_len]; exact h
  rw [getElem!_pos _ i h2, getElem!_pos _ i h]
  simp only [foldB_fcs, List.getElem_map]
  have := fcs_ascii l _ (List.getElem_mem h)
  rw [UInt8.toNat_ofNat']
  exact Nat.mod_eq_of_lt (by omega)
def jnd (x : Nat) : Bool := clsA (x : Int) == 3 || clsA (x : Int) == 2
def brd (S : List Nat) (i : Int) : Bool := if i < 0 ∨ (S.length : Int) ≤ i then true else !jnd (S[i.toNat]!)
def mat (S T : List Nat) (i : Nat) : Bool := decide ((S.drop i).take T.length = T) && brd S ((i : Int) - 1) && brd S ((i : Int) + T.length)
def conF (S T : List Nat) : Bool := (List.range (S.length + 1 - T.length)).any (mat S T)
def conB (x t : List UInt8) : Bool := if vldB (strB (rpl x)) = true ∧ phrB t = true then conF (fcs (rpl x)) (fcs t) else false
theorem conF_true {S T : List Nat} {i : Nat} (h : i + T.length ≤ S.length) (hm : mat S T i = true) : conF S T = true :=
  List.any_eq_true.2 ⟨i, List.mem_range.2 (by omega), hm⟩
theorem conF_false {S T : List Nat} (h : ∀ i, i + T.length ≤ S.length → mat S T i = false) : conF S T = false := by
  unfold conF
  rw [List.any_eq_false]
  intro i hi
  have := List.mem_range.1 hi
  rw [h i (by omega)]; decide
end Go.Gh
