/-
  rowbreak, plain: row breaks with a cost are a path.
-/
import Derived.Test.YtbhgpiakeimmlaaDoorRbWP
namespace Go.Gh
set_option linter.unusedSimpArgs false
set_option linter.unusedVariables false
theorem costF_pth {p : Par} {E : List Int} {c : Int} (h : costF p E = (c, 0)) : parF p = 0 ∧ ∃ k, E = natsI k ∧ Pth p.D 0 k c ∧ k.length ≤ p.r.toNat := by
  unfold costF at h
  split at h
  · rename_i h1
    simp only [Prod.mk.injEq] at h; exact absurd h.2 h1
  · rename_i h1
    have h1 : parF p = 0 := Decidable.not_not.1 h1
    obtain ⟨k, rfl, h2, h3⟩ := totF_pth h
    refine ⟨h1, k, rfl, h2, ?_⟩
    simp [natsI] at h3; omega
end Go.Gh
