/-
  Plain: strings of characters of the repertoire, by their bytes and by their runes.
-/
import Derived.Test.YtgbibkkcnkaelaaDoorSyC2
import Derived.Lib.ValidLaws
import Derived.Lib.TrimUEq
import Derived.Lib.MapLaws
namespace Go.Gh
set_option linter.unusedSimpArgs false
set_option linter.unusedVariables false
open Go.Lib
set_option maxRecDepth 100000

theorem enc_table2 : (REP.all fun x => encodeRune (x : Int) == encL x) = true := by kernel_rfl
theorem encR {x : Nat} (hx : x ∈ REP) : encodeRune (x : Int) = encL x := by
  have := List.all_eq_true.1 enc_table2 x hx
  simpa using this
def vldB (s : ByteArray) : Bool := (rns s).all fun x => decide (0 ≤ idxN x)
theorem idx_err : idxN ((65533 : Nat) : Int) < 0 := by decide +kernel
theorem mem_of_idx {x : Nat} (h : 0 ≤ idxN x) : x ∈ REP := by
  obtain ⟨y, hy, e⟩ := idx_mem (r := (x : Int)) (by omega)
  have : y = x := by omega
  rw [← this]; exact hy
theorem idx_of_mem {x : Nat} (h : x ∈ REP) : 0 ≤ idxN x := by
  rcases idx_cases x with ⟨_, k⟩ | ⟨n, _, e, _⟩
  · exact absurd rfl (k x h)
  · omega
theorem valid_from (s : ByteArray) : ∀ (k pos : Nat), s.size - pos ≤ k → (∀ x ∈ rnsAt s pos, x ∈ REP) → validD (s.data.toList.drop pos) = true ∧ (rnsAt s pos).flatMap encL = s.data.toList.drop pos := by
  intro k
  induction k with
  | zero =>
    intro pos h _
    have : s.data.toList.length = s.size := rfl
    rw [List.drop_eq_nil_of_le (by omega), rnsAt_no (by omega)]
    exact ⟨validD_nil, rfl⟩
  | succ k ih =>
    intro pos h hm
    have hsz : s.data.toList.length = s.size := rfl
    by_cases hp : pos < s.size
    · have hw := width_pos s pos
      rw [rnsAt_yes hp] at hm ⊢
      have hx := hm (Utf8.decode s pos).1 (List.mem_cons_self ..)
      have hne : s.data.toList.drop pos ≠ [] := fun e => by
        have := congrArg List.length e
        simp only [List.length_drop, List.length_nil] at this
        omega
      have hd := decodeL_drop s pos
      have hbad : ¬ ((decodeL (s.data.toList.drop pos)).1 = 65533 ∧ (decodeL (s.data.toList.drop pos)).2 = 1) := by
        rintro ⟨e, _⟩
        rw [hd] at e
        rw [e] at hx
        have := idx_of_mem hx
        have := idx_err
        omega
      obtain ⟨k1, k2⟩ := ih (pos + (Utf8.decode s pos).2) (by omega) (fun x hx => hm x (by simp [hx]))
      have hen := encode_decode _ hne hbad
      rw [hd, encR hx] at hen
      refine ⟨?_, ?_⟩
      · rw [validD_step _ hne, if_neg hbad, hd, List.drop_drop]
        exact k1
      · rw [List.flatMap_cons, k2, hen, ← List.drop_drop, List.take_append_drop]
    · rw [List.drop_eq_nil_of_le (by omega), rnsAt_no hp]
      exact ⟨validD_nil, rfl⟩
theorem vldB_mem {s : ByteArray} (h : vldB s = true) : ∀ x ∈ rns s, x ∈ REP := fun x hx => by
  have := List.all_eq_true.1 h x hx
  exact mem_of_idx (by simpa using this)
theorem vld_valid {s : ByteArray} (h : vldB s = true) : validD s.data.toList = true := (valid_from s _ 0 (Nat.le_refl _) (vldB_mem h)).1
/-- what is read is what was written -/
theorem enc_rns {s : ByteArray} (h : vldB s = true) : (rns s).flatMap encL = s.data.toList := (valid_from s _ 0 (Nat.le_refl _) (vldB_mem h)).2
end Go.Gh
