/-
  Plain: line feeds as blanks; phrases; what a text contains.
-/
import Derived.Test.YtfldcmeecpgpeaaDoorGlC4
import Derived.Test.YtfldcmeecpgpeaaDoorLc
namespace Go.Gh
set_option linter.unusedSimpArgs false
set_option linter.unusedVariables false
open Go.RowKit Go.Lib
set_option maxRecDepth 100000
theorem index_cons (b : UInt8) (l sub : List UInt8) : index (b :: l) sub = if sub.isPrefixOf (b :: l) = true then 0 else if index l sub == -1 then -1 else index l sub + 1 := by rw [index]
def dblF : List UInt8 → Bool
  | a :: b :: r => (a == 32 && b == 32) || dblF (b :: r)
  | _ => false
theorem contains_cons (b : UInt8) (l sub : List UInt8) : contains (b :: l) sub = (sub.isPrefixOf (b :: l) || contains l sub) := by
  unfold contains
  rw [index_cons]
  have hge := index_ge l sub
  cases hp : sub.isPrefixOf (b :: l) with
  | true => simp
  | false =>
    simp only [Bool.false_eq_true, if_false, Bool.false_or]
    by_cases hm : index l sub = -1
    · rw [hm]; rfl
    · have hm' : (index l sub == -1) = false := by simpa using hm
      rw [hm']
      simp only [Bool.false_eq_true, if_false]
      rw [decide_eq_true (show (0 : Int) ≤ index l sub + 1 by omega), decide_eq_true (show (0 : Int) ≤ index l sub by omega)]
theorem contains_dbl : ∀ l : List UInt8, contains l [32, 32] = dblF l
  | [] => rfl
  | [a] => by rw [contains_cons]; simp [List.isPrefixOf, dblF]; rfl
  | a :: b :: r => by
    rw [contains_cons, contains_dbl (b :: r), dblF]
    congr 1
    simp only [List.isPrefixOf, Bool.and_true]
    rw [Bool.beq_comm (a := 32) (b := a), Bool.beq_comm (a := 32) (b := b)]
theorem dblF_iff : ∀ l : List UInt8, dblF l = true ↔ ∃ i, i + 1 < l.length ∧ l[i]! = 32 ∧ l[i + 1]! = 32
  | [] => by simp [dblF]
  | [a] => by simp [dblF]
  | a :: b :: r => by
    rw [dblF, Bool.or_eq_true, Bool.and_eq_true, beq_iff_eq, beq_iff_eq, dblF_iff (b :: r)]
    constructor
    · rintro (⟨h1, h2⟩ | ⟨i, h1, h2, h3⟩)
      · exact ⟨0, by simp, by simpa using h1, by simpa using h2⟩
      · exact ⟨i + 1, by simpa using h1, by simpa using h2, by simpa using h3⟩
    · rintro ⟨i, h1, h2, h3⟩
      cases i with
      | zero => exact .inl ⟨by simpa using h2, by simpa using h3⟩
      | succ i => exact .inr ⟨i, by simpa using h1, by simpa using h2, by simpa using h3⟩
def phrB (l : List UInt8) : Bool := vldB (strB l) && !(l == []) && !(l[0]! == 32) && !(l[l.length - 1]! == 32) && !dblF l && decide (l.length ≤ 400)
end Go.Gh
