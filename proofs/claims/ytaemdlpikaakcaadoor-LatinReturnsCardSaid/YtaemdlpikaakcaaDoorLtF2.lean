/-
  Plain: the character whose bytes stand at the beginning of a row.
-/
import Derived.Test.YtaemdlpikaakcaaDoorLtF
namespace Go.Gh
set_option linter.unusedSimpArgs false
set_option linter.unusedVariables false
set_option maxRecDepth 100000

def lk (d : Int) : List Nat → Option Int
  | [] => none
  | x :: t => if basA x = d then some x else if basA (lowA x) = d then some (lowA x) else lk d t
def getA : List Int → Int × Int
  | [] => (0, 0)
  | c :: t => if 32 ≤ c ∧ c < 127 then (c, 1) else match fnd SBY c with
    | some i => ((SCH[i]! : Nat), 1)
    | none => match t with
      | [] => (0, 0)
      | d :: _ => match lk d (ACC c) with
        | some x => (x, 2)
        | none => (0, 0)
def getB : List Int → Int × Int
  | [] => (0, 0)
  | c :: t => if ¬ sngN c = 0 then (sngN c, 1) else match t with
    | [] => (0, 0)
    | d :: _ => if ¬ dblN c d = 0 then (dblN c d, 2) else (0, 0)
def get1 (c : Int) : Int := if 32 ≤ c ∧ c < 127 then c else match fnd SBY c with
    | some i => (SCH[i]! : Nat)
    | none => 0
def lkN (c d : Int) : Int := match lk d (ACC c) with
  | some x => x
  | none => 0
theorem tab1 : ((List.range 256).all fun c => get1 c == sngN c) = true := by kernel_rfl
theorem tab2 : ((List.range 11).all fun i => (List.range 256).all fun d => lkN (193 + (i : Int)) d == dblN (193 + (i : Int)) d) = true := by kernel_rfl
theorem sch_pos : (SCH.all fun x => decide (0 < x)) = true := by kernel_rfl
theorem acc_pos : ((List.range 11).all fun i => (ACC (193 + (i : Int))).all fun x => decide (0 < x ∧ 0 < lowA x)) = true := by kernel_rfl
theorem acc_out {c : Int} (h : c < 193 ∨ 203 < c) : ACC c = [] := by
  unfold ACC
  (repeat' split) <;> first | rfl | omega
theorem mrk_in : (MRK.all fun x => decide (193 ≤ x ∧ x ≤ 203)) = true := by kernel_rfl
theorem dblF_none {m c : Int} (h : m < 193 ∨ 203 < m) : ∀ k j, j + k ≤ 25 → dblF m c k j = none
  | 0, _, _ => rfl
  | k + 1, j, hk => by
    have hj : j < MRK.length := by show j < 25; omega
    have := List.all_eq_true.1 mrk_in _ (List.getElem_mem hj)
    rw [decide_eq_true_eq, ← getElem!_pos MRK j hj] at this
    rw [dblF, if_neg (by omega), dblF_none h k (j + 1) (by omega)]
theorem dbl_out {c d : Int} (h : c < 193 ∨ 203 < c) : dblN c d = 0 := by
  unfold dblN
  split <;> rw [dblF_none h 25 0 (by omega)]
theorem lk_mem {d x : Int} : ∀ {l : List Nat}, lk d l = some x → ∃ y ∈ l, x = y ∨ x = lowA y
  | [], h => by cases h
  | y :: t, h => by
    rw [lk] at h
    split at h
    · cases h; exact ⟨y, by simp, .inl rfl⟩
    · split at h
      · cases h; exact ⟨y, by simp, .inr rfl⟩
      · obtain ⟨z, hz, e⟩ := lk_mem h
        exact ⟨z, by simp [hz], e⟩
theorem lk_same {c d : Int} (_hc : 0 ≤ c ∧ c ≤ 255) (hd : 0 ≤ d ∧ d ≤ 255) : lkN c d = dblN c d := by
  by_cases h : c < 193 ∨ 203 < c
  · rw [dbl_out h, lkN, acc_out h]; rfl
  · obtain ⟨i, rfl⟩ : ∃ i : Nat, c = 193 + (i : Int) := ⟨(c - 193).toNat, by omega⟩
    obtain ⟨e, rfl⟩ : ∃ e : Nat, d = e := ⟨d.toNat, by omega⟩
    have := List.all_eq_true.1 (List.all_eq_true.1 tab2 i (List.mem_range.2 (by omega))) e (List.mem_range.2 (by omega))
    simpa using this
theorem lk_pos {c d x : Int} (h : lk d (ACC c) = some x) : 0 < x := by
  by_cases hc : c < 193 ∨ 203 < c
  · rw [acc_out hc] at h; cases h
  · obtain ⟨i, rfl⟩ : ∃ i : Nat, c = 193 + (i : Int) := ⟨(c - 193).toNat, by omega⟩
    obtain ⟨y, hy, e⟩ := lk_mem h
    have := List.all_eq_true.1 (List.all_eq_true.1 acc_pos i (List.mem_range.2 (by omega))) y hy
    simp only [decide_eq_true_eq] at this
    omega
theorem get_same {l : List Int} (hl : ∀ x ∈ l, 0 ≤ x ∧ x ≤ 255) : getA l = getB l := by
  match l, hl with
  | [], _ => rfl
  | c :: t, hl =>
    have hc := hl c (by simp)
    have h1 : get1 c = sngN c := by
      obtain ⟨n, rfl⟩ : ∃ n : Nat, c = n := ⟨c.toNat, by omega⟩
      have := List.all_eq_true.1 tab1 n (List.mem_range.2 (by omega))
      simpa using this
    simp only [getA, getB]
    by_cases h2 : 32 ≤ c ∧ c < 127
    · rw [if_pos h2]
      rw [get1, if_pos h2] at h1
      rw [if_pos (by omega), ← h1]
    rw [if_neg h2]
    rw [get1, if_neg h2] at h1
    cases hf : fnd SBY c with
    | some i =>
      rw [hf] at h1
      simp only at h1 ⊢
      have hi := (fnd_lt _ _ _ hf).1
      have hp : SCH[i]! ∈ SCH := by rw [getElem!_pos SCH i hi]; exact List.getElem_mem _
      have := List.all_eq_true.1 sch_pos _ hp
      simp only [decide_eq_true_eq] at this
      rw [if_pos (by omega), ← h1]
    | none =>
      rw [hf] at h1
      simp only at h1 ⊢
      rw [if_neg (by omega)]
      cases t with
      | nil => rfl
      | cons d t =>
        have hd := hl d (by simp)
        have h3 := lk_same hc hd
        simp only
        unfold lkN at h3
        cases hk : lk d (ACC c) with
        | some x =>
          rw [hk] at h3
          simp only at h3 ⊢
          have := lk_pos hk
          rw [if_pos (by omega), ← h3]
        | none =>
          rw [hk] at h3
          simp only at h3 ⊢
          rw [if_neg (by omega)]
end Go.Gh
