/-
  Plain: a line's term, as the scanners take it.
-/
import Derived.Test.YtfldcmeecpgpeaaGreatDoorGlWS
namespace Go.Gh
set_option linter.unusedSimpArgs false
set_option linter.unusedVariables false
set_option maxHeartbeats 4000000
open Go.RowKit Go.Lib
set_option maxRecDepth 4000
theorem tk_cases {L : List Fd} {k : Nat} (h : k ≤ L.length) : (k < L.length ∧ L[k]!.q = true ∧ tkF L true k none = (L[k]!.t, true, k + 1, none)) ∨ (∃ c, tkF L true k none = ([], false, k, some c) ∧ ((k < L.length ∧ L[k]!.q = false ∧ c = L[k]!.c) ∨ (k = L.length ∧ c = 0))) := by
  simp only [tkF]
  by_cases h1 : k < L.length
  · rw [if_pos h1]
    cases hq : L[k]!.q with
    | true => exact .inl ⟨h1, rfl, by rw [if_pos rfl]⟩
    | false => exact .inr ⟨L[k]!.c, by rw [if_neg (by decide)], .inl ⟨h1, rfl, rfl⟩⟩
  · rw [if_neg h1]
    exact .inr ⟨0, rfl, .inr ⟨by omega, rfl⟩⟩
theorem errQ_at {L : List Fd} {m k : Nat} (h : k < L.length) : errQ m (L.drop k) = if L[k]!.q = true then errQ (m - 1) (L.drop (k + 1)) else some L[k]!.c := by
  rw [List.drop_eq_getElem_cons h, getElem!_pos L k h]
  cases m <;> rfl
theorem errQ_end {m : Nat} (h : 0 < m) : errQ m [] = some 0 := by
  cases m with
  | zero => omega
  | succ m => rfl
def orE (e : Option Nat) (x : Option Nat) : Option Nat := match e with
  | some c => some c
  | none => x
theorem errQ_tk {L : List Fd} {m k : Nat} (hk : k ≤ L.length) (hm : 0 < m ∨ k < L.length) : errQ m (L.drop k) = orE (tkF L true k none).2.2.2 (errQ (m - 1) (L.drop (tkF L true k none).2.2.1)) := by
  rcases tk_cases hk with ⟨h1, h2, h3⟩ | ⟨c, h3, h | h⟩
  · rw [h3, errQ_at h1, if_pos h2]; rfl
  · rw [h3, errQ_at h.1, if_neg (by rw [h.2.1]; decide), h.2.2]; rfl
  · rw [h3, h.1, List.drop_length, errQ_end (by omega), h.2]; rfl
structure PI (L : List Fd) (k : Nat) (e : Option Nat) (s : List UInt8) (g : List (List UInt8)) : Prop where
  err : errQ 2 (L.drop 1) = orE e (errQ 0 (L.drop k))
  ok : e = none → 3 ≤ k ∧ s = L[1]!.t ∧ g = ((L.take k).drop 2).map (·.t)
  sm : s.length ≤ 16777216 ∧ g.length ≤ 16777216 ∧ ∀ t ∈ g, t.length ≤ 16777216
def smL (L : List Fd) : Prop := L.length ≤ 1000 ∧ ∀ f ∈ L, f.t.length ≤ 1048576
theorem tk_small {L : List Fd} (hL : smL L) {k : Nat} {e : Option Nat} (hk : k ≤ L.length) : (tkF L true k e).1.length ≤ 1048576 := by
  cases e with
  | some c => simp [tkF]
  | none =>
    rcases tk_cases hk with ⟨h1, h2, h3⟩ | ⟨c, h3, _⟩
    · rw [h3]; exact hL.2 _ (bang_mem h1)
    · rw [h3]; simp
theorem PI.start {L : List Fd} (hL : smL L) (h1 : 1 ≤ L.length) : PI L (tkF L true (tkF L true 1 none).2.2.1 (tkF L true 1 none).2.2.2).2.2.1 (tkF L true (tkF L true 1 none).2.2.1 (tkF L true 1 none).2.2.2).2.2.2 (tkF L true 1 none).1 [(tkF L true (tkF L true 1 none).2.2.1 (tkF L true 1 none).2.2.2).1] := by
  have hA := errQ_tk (m := 2) h1 (.inl (by decide))
  have hs1 := tk_small hL (e := none) h1
  have hle := tkF_le (q := true) (e := none) h1
  have hs2 := tk_small hL (e := (tkF L true 1 none).2.2.2) hle
  refine ⟨?_, fun he => ?_, by omega, by simp, by simp only [List.mem_singleton, forall_eq]; omega⟩
  · rw [hA]
    rcases tk_cases h1 with ⟨g1, g2, g3⟩ | ⟨c, g3, _⟩
    · rw [g3]
      simp only [orE]
      exact errQ_tk (m := 1) (show 2 ≤ L.length by omega) (.inl (by decide))
    · rw [g3]; rfl
  · rcases tk_cases h1 with ⟨g1, g2, g3⟩ | ⟨c, g3, _⟩
    · rw [g3] at he ⊢
      simp only at he ⊢
      rcases tk_cases (show 2 ≤ L.length by omega) with ⟨k1, k2, k3⟩ | ⟨c, k3, _⟩
      · rw [k3]
        refine ⟨Nat.le_refl _, by first | rfl | trivial, ?_⟩
        have : (L.take 3).drop 2 = [L[2]!] := by
          rw [List.take_succ_eq_append_getElem k1, List.drop_left' (by simp; omega), getElem!_pos L 2 k1]
        rw [this]; rfl
      · rw [k3] at he; cases he
    · rw [g3] at he; cases he
theorem PI.step {L : List Fd} (hL : smL L) {k : Nat} {s : List UInt8} {g : List (List UInt8)} (h : PI L k none s g) (hk : k < L.length) : PI L (tkF L true k none).2.2.1 (tkF L true k none).2.2.2 s (g ++ [(tkF L true k none).1]) := by
  obtain ⟨h3, h4, h5⟩ := h.ok rfl
  have hgl : g.length ≤ 1000 := by
    rw [h5]
    simp only [List.length_map, List.length_drop, List.length_take]
    have := hL.1; omega
  have hs := tk_small hL (e := none) (Nat.le_of_lt hk)
  refine ⟨?_, fun he => ?_, h.sm.1, by simp; omega, fun t ht => ?_⟩
  · rw [h.err]
    exact errQ_tk (m := 0) (Nat.le_of_lt hk) (.inr hk)
  · rcases tk_cases (Nat.le_of_lt hk) with ⟨k1, k2, k3⟩ | ⟨c, k3, _⟩
    · rw [k3] at he ⊢
      refine ⟨by simp only; omega, h4, ?_⟩
      rw [h5, List.take_succ_eq_append_getElem hk, List.drop_append_of_le_length (by simp; omega), List.map_append, getElem!_pos L k hk]
      rfl
    · rw [k3] at he; cases he
  · rcases List.mem_append.1 ht with ht | ht
    · exact h.sm.2.2 t ht
    · rw [List.mem_singleton] at ht; subst ht; omega
theorem PI.done {L : List Fd} {s : List UInt8} {g : List (List UInt8)} (h : PI L L.length none s g) : errQ 2 (L.drop 1) = none ∧ s = L[1]!.t ∧ g = (L.drop 2).map (·.t) := by
  obtain ⟨h3, h4, h5⟩ := h.ok rfl
  refine ⟨?_, h4, by rw [h5, List.take_length]⟩
  rw [h.err, List.drop_length]; rfl
theorem PI.bad {L : List Fd} {k c : Nat} {s : List UInt8} {g : List (List UInt8)} (h : PI L k (some c) s g) : errQ 2 (L.drop 1) = some c := h.err
end Go.Gh
