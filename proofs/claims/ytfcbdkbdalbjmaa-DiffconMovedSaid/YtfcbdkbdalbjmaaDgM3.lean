/-
  What the laws say of solutions and conflicts: plainly.
-/
import Derived.Test.YtfcbdkbdalbjmaaDgSolve
import Derived.Test.YtfcbdkbdalbjmaaDgRef
namespace Go.Gh
set_option linter.unusedSimpArgs false
set_option linter.unusedVariables false

theorem chain_Ch : ∀ {bs : List Bd} {a s a' s' : Int}, (∀ b ∈ bs, 0 ≤ b.I ∧ 0 ≤ b.J) → chainF bs a s = some (a', s') → Ch a.toNat (bs.map edge) a'.toNat ∧ s' = s + Su (bs.map edge)
  | [], a, s, a', s', _, h => by cases h; exact ⟨rfl, by simp [Su]⟩
  | b :: r, a, s, a', s', hv, h => by
    unfold chainF at h
    split at h
    · cases h
    · rename_i hb
      have hb : b.I = a := by omega
      obtain ⟨h1, h2⟩ := chain_Ch (fun c hc => hv c (by simp [hc])) h
      refine ⟨⟨by show b.I.toNat = _; rw [hb], h1⟩, ?_⟩
      rw [List.map_cons, Su_cons, h2]
      show _ = s + (b.C + _)
      omega
theorem Ch_chain : ∀ {bs : List Bd} {a : Int} {v : Nat} (s : Int), (∀ b ∈ bs, 0 ≤ b.I ∧ 0 ≤ b.J) → 0 ≤ a → Ch a.toNat (bs.map edge) v → ∃ a', chainF bs a s = some (a', s + Su (bs.map edge))
  | [], a, v, s, _, _, _ => ⟨a, by simp [chainF, Su]⟩
  | b :: r, a, v, s, hv, ha, ⟨h1, h2⟩ => by
    have h1 : b.I.toNat = a.toNat := h1
    have := hv b (by simp)
    have hb : b.I = a := by omega
    obtain ⟨a', h3⟩ := Ch_chain (s + b.C) (fun c hc => hv c (by simp [hc])) this.2 h2
    refine ⟨a', ?_⟩
    unfold chainF
    rw [if_neg (fun h => h hb), h3, List.map_cons, Su_cons]
    show _ = some (a', s + (b.C + _))
    rw [Int.add_assoc]
theorem pickB_mem {l : List Bd} {cs : List Int} (h : ∀ i, i < cs.length → 0 ≤ cs[i]! ∧ cs[i]! < l.length) : ∀ b ∈ pickB l cs, b ∈ l := by
  intro b hb
  obtain ⟨k, hk, rfl⟩ := List.mem_map.1 hb
  obtain ⟨i, hi, rfl⟩ := List.getElem_of_mem hk
  have := h i hi
  rw [getElem!_pos cs i hi] at this
  rw [getElem!_pos l _ (by omega)]
  exact List.getElem_mem _
theorem offC_all {m : Nat} {cs : List Int} (h : cs.any (offC m) = false) : ∀ i, i < cs.length → 0 ≤ cs[i]! ∧ cs[i]! < m := by
  intro i hi
  rw [List.any_eq_false] at h
  have := h cs[i] (List.getElem_mem hi)
  rw [getElem!_pos cs i hi]
  simp only [offC, Bool.or_eq_true, decide_eq_true_eq] at this
  omega
/-- an accepted conflict is one -/
theorem refutes_neg {n : Int} {l : List Bd} {cs : List Int} (h : refutesP n l cs = 0) : checkF n l = 0 ∧ ∃ p, Neg (l.map edge) p := by
  unfold refutesP at h
  split at h
  · omega
  rename_i hc
  have hc : checkF n l = 0 := by omega
  obtain ⟨_, _, _, hV⟩ := checkF_ok hc
  refine ⟨hc, ?_⟩
  split at h
  · cases h
  rename_i hl
  split at h
  · cases h
  rename_i ho
  have ho := offC_all (by simpa using ho)
  have hne : pickB l cs ≠ [] := fun e => hl (.inl (by rw [← pickB_len (l := l), e]; rfl))
  have hmem := pickB_mem ho
  generalize hbs : pickB l cs = bs at *
  split at h
  · cases h
  · rename_i a s hch
    split at h
    · cases h
    · rename_i hs
      have hv : ∀ b ∈ bs, 0 ≤ b.I ∧ 0 ≤ b.J := fun b hb => by have := hV b (hmem b hb); omega
      obtain ⟨h1, h2⟩ := chain_Ch hv hch
      have ha : a = (l[(cs[cs.length - 1]!).toNat]!).J := by
        rcases chain_end _ _ _ _ _ hch with ⟨h, _⟩ | ⟨b, h3, h4⟩
        · exact absurd h hne
        · rw [h4]
          have hpos : 0 < cs.length := by omega
          have : bs.getLast? = some l[(cs[cs.length - 1]!).toNat]! := by
            rw [← hbs]
            unfold pickB
            rw [List.getLast?_map, List.getLast?_eq_getElem?, List.getElem?_eq_getElem (by omega), getElem!_pos cs _ (by omega)]; rfl
          rw [this] at h3
          cases h3; rfl
      rw [ha] at h1
      refine ⟨bs.map edge, by simpa using hne, fun e he => ?_, ⟨_, h1⟩, by omega⟩
      obtain ⟨b, hb, rfl⟩ := List.mem_map.1 he
      exact List.mem_map.2 ⟨b, hmem b hb, rfl⟩
/-- Solve's parts, by cases -/
theorem solve_cases {n : Int} {l : List Bd} (hn : n ≤ 16) : (checkF n l ≠ 0 ∧ solveF n l = ([], [], checkF n l)) ∨
    (∃ N : Nat, n = N ∧ 1 ≤ N ∧ checkF n l = 0 ∧ Valid N l ∧ Ok0 N (l.map edge) ∧ (∀ p, ¬ Neg (l.map edge) p) ∧ solveF n l = (sweepN (l.map edge) (N - 1) (zeros_ N), [], 0)) ∨
    ∃ N : Nat, n = N ∧ 1 ≤ N ∧ checkF n l = 0 ∧ Valid N l ∧ Ok0 N (l.map edge) ∧ (∃ p, Neg (l.map edge) p) ∧ solveF n l = ([], confF N (l.map edge) (shortF N (l.map edge) 1 - 1), 16) := by
  by_cases hc : checkF n l = 0
  · obtain ⟨hn1, _, _, hV⟩ := checkF_ok hc
    obtain ⟨N, rfl⟩ : ∃ N : Nat, n = N := ⟨n.toNat, by omega⟩
    rw [Int.toNat_natCast] at hV
    have h0 := hV.ok0 (by omega)
    right
    by_cases hr : (relaxF (l.map edge) (N + 1) (zeros_ N)).2 = true
    · left
      have hno := (relax_iff h0 (Nat.le_succ N) (by omega)).1 hr
      refine ⟨N, rfl, by omega, hc, hV, h0, hno, ?_⟩
      unfold solveF
      rw [if_neg (by omega), Int.toNat_natCast, if_pos hr, relax_eq h0 (src_zeros N) hno (Nat.le_succ N) (by omega)]
    · right
      have hneg := neg_of_relax h0 (Nat.le_succ N) (by omega) (by simpa using hr)
      refine ⟨N, rfl, by omega, hc, hV, h0, hneg, ?_⟩
      unfold solveF
      rw [if_neg (by omega), Int.toNat_natCast, if_neg hr]
  · left
    exact ⟨hc, by unfold solveF; rw [if_pos hc]⟩
/-- the conflict of Solve -/
theorem conf_solve {n : Nat} {es : List Ed} (h0 : Ok0 n es) (h : ∃ p, Neg es p) : (confF n es (shortF n es 1 - 1)).length = shortF n es 1 ∧ 1 ≤ shortF n es 1 ∧ shortF n es 1 ≤ n ∧ (∀ k ∈ confF n es (shortF n es 1 - 1), k < es.length) ∧
    Neg es ((confF n es (shortF n es 1 - 1)).map fun k => es[k]!) ∧ ∀ p, Neg es p → shortF n es 1 ≤ p.length := by
  obtain ⟨s1, s2, s3, s4⟩ := short_spec h0 h
  have h8 := h0.2.2
  have hne := conf_least h0 (z := shortF n es 1 - 1) (by omega) (fun p hp => by have := s4 p hp; omega) (by obtain ⟨p, p1, p2⟩ := s3; exact ⟨p, p1, by omega⟩)
  rcases conf_spec h0 (z := shortF n es 1 - 1) (by omega) with ⟨k, _⟩ | ⟨_, k1, k2, k3⟩
  · exact absurd k hne
  · exact ⟨by omega, s1, s2, k2, k3, s4⟩
/-- a conflict is accepted as one -/
theorem conf_refutes {n : Nat} {l : List Bd} (hc : checkF n l = 0) (hV : Valid n l) (h0 : Ok0 n (l.map edge)) (h : ∃ p, Neg (l.map edge) p) :
    refutesP n l ((confF n (l.map edge) (shortF n (l.map edge) 1 - 1)).map fun (k : Nat) => (k : Int)) = 0 := by
  obtain ⟨k1, k2, k3, k4, ⟨p1, p2, ⟨u, p3⟩, p4⟩, _⟩ := conf_solve h0 h
  rw [refutes_eq]
  generalize confF n (l.map edge) (shortF n (l.map edge) 1 - 1) = c at *
  have hcl : 1 ≤ c.length := by omega
  have hel : (l.map edge).length = l.length := by simp
  have hin : ∀ i, i < (c.map fun (k : Nat) => (k : Int)).length → 0 ≤ (c.map fun (k : Nat) => (k : Int))[i]! ∧ (c.map fun (k : Nat) => (k : Int))[i]! < l.length := fun i hi => by
    rw [getElem!_pos _ i hi, List.getElem_map]
    have := k4 (c[i]'(by simpa using hi)) (List.getElem_mem _)
    omega
  have hp : pickB l (c.map fun (k : Nat) => (k : Int)) = c.map fun k => l[k]! := by
    unfold pickB; rw [List.map_map]; exact List.map_congr_left fun k _ => by simp
  have he : (c.map fun k => l[k]!).map edge = c.map fun k => (l.map edge)[k]! := by
    rw [List.map_map]
    exact List.map_congr_left fun k hk => (edge_at (by have := k4 k hk; omega)).symm
  have hmem : ∀ b ∈ c.map (fun k => l[k]!), 0 ≤ b.I ∧ 0 ≤ b.J := fun b hb => by
    obtain ⟨k, hk, rfl⟩ := List.mem_map.1 hb
    have := k4 k hk
    have hk' : k < l.length := by omega
    rw [getElem!_pos l k hk']
    have := hV _ (List.getElem_mem hk')
    omega
  obtain ⟨c0, r, rfl⟩ : ∃ c0 r, c = c0 :: r := by
    cases c with
    | nil => simp at hcl
    | cons c0 r => exact ⟨c0, r, rfl⟩
  unfold refutesR
  rw [if_neg (by omega), if_neg (by simp at k1 ⊢; omega), if_neg]
  · have h00 : ((c0 :: r).map fun (k : Nat) => (k : Int))[0]! = (c0 : Int) := rfl
    rw [h00, Int.toNat_natCast, hp]
    have hI := hmem l[c0]! (by simp)
    have hu : (l[c0]!).I.toNat = u := by
      have h3 : ((l.map edge)[c0]!).i = u := p3.1
      rw [edge_at (by have := k4 c0 (by simp); omega)] at h3
      exact h3
    have hch : Ch (l[c0]!).I.toNat (((c0 :: r).map fun k => l[k]!).map edge) u := by rw [he, hu]; exact p3
    obtain ⟨a', h1⟩ := Ch_chain 0 hmem hI.1 hch
    have h2 := chain_Ch hmem h1
    rw [h1]
    simp only
    have ha : a' = (l[c0]!).I := by
      have h3 := h2.1
      have h4 : a'.toNat = u := by
        have : ∀ {p : List Ed} {x y z : Nat}, Ch x p y → Ch x p z → y = z := by
          intro p
          induction p with
          | nil => intro x y z h1 h2; exact h1.symm.trans h2
          | cons e p ih => intro x y z h1 h2; exact ih h1.2 h2.2
        exact this h3 hch
      rcases chain_end _ _ _ _ _ h1 with ⟨h, _⟩ | ⟨b, hb1, hb2⟩
      · cases h
      · have := hmem b (List.mem_of_getLast? hb1)
        omega
    rw [if_neg (fun h => h ha), if_neg]
    rw [he]; omega
  · rw [any_none fun i hi => ?_]
    · exact Bool.false_ne_true
    · have := hin i hi
      rw [offC, decide_eq_false (by omega), decide_eq_false (by omega)]; rfl
/-- accepted values: no closed chain is below 0 -/
theorem feasible_noneg {es : List Ed} {y : List Int} (h : ∀ e ∈ es, gx y e.j - gx y e.i ≤ e.c) : ∀ p, ¬ Neg es p := by
  have key : ∀ {p : List Ed} {u v : Nat}, In es p → Ch u p v → gx y v ≤ gx y u + Su p := by
    intro p
    induction p with
    | nil => intro u v _ hc; obtain rfl : u = v := hc; rw [Su_nil]; omega
    | cons e p ih =>
      intro u v hin hc
      obtain ⟨i1, i2⟩ := In.cons.1 hin
      have := ih i2 hc.2
      have h2 := h e i1
      have h3 : e.i = u := hc.1
      rw [Su_cons, ← h3]
      omega
  rintro p ⟨_, p2, ⟨u, p3⟩, p4⟩
  have := key p2 p3
  omega
theorem feasible_le {es : List Ed} {y : List Int} (h : ∀ e ∈ es, gx y e.j - gx y e.i ≤ e.c) {x : List Int} (hx : ∀ v, v < x.length → gx y v ≤ gx x v) (hn : ∀ e ∈ es, e.i < x.length) : ∀ k v, v < x.length → gx y v ≤ gx (sweepN es k x) v := by
  have sw : ∀ (l : List Ed) (x : List Int), (∀ e ∈ l, e ∈ es ∧ e.i < x.length) → (∀ v, v < x.length → gx y v ≤ gx x v) → ∀ v, v < x.length → gx y v ≤ gx (sweepX l x) v := by
    intro l
    induction l with
    | nil => intro x _ hx v hv; exact hx v hv
    | cons e l ih =>
      intro x hs hx v hv
      refine ih (step x e) (fun f hf => by rw [step_len]; exact hs f (by simp [hf])) (fun w hw => ?_) v (by rw [step_len]; exact hv)
      rw [step_len] at hw
      unfold step
      split
      · rw [gx_set]
        split
        · rename_i h2
          have h3 := h e (hs e (by simp)).1
          have h4 := hx e.i (hs e (by simp)).2
          rw [← h2.1]
          omega
        · exact hx w hw
      · exact hx w hw
  intro k
  induction k with
  | zero => exact hx
  | succ k ih =>
    intro v hv
    rw [sweepN_succ]
    exact sw es _ (fun e he => ⟨he, by rw [sweepN_len]; exact hn e he⟩) (fun w hw => ih w (by rw [sweepN_len] at hw; exact hw)) v (by rw [sweepN_len]; exact hv)
/-- what Accept's OK says -/
theorem accept_zero {n : Int} {l : List Bd} {xs : List Int} (h : acceptF n l xs = 0) : checkF n l = 0 ∧ (xs.length : Int) = n ∧ ∀ e ∈ l.map edge, gx xs e.j - gx xs e.i ≤ e.c := by
  unfold acceptF at h
  split at h
  · omega
  split at h
  · cases h
  split at h
  · cases h
  split at h
  · cases h
  rename_i hc hl ho hb
  refine ⟨by omega, by omega, fun e he => ?_⟩
  obtain ⟨b, hb', rfl⟩ := List.mem_map.1 he
  rw [Bool.not_eq_true, List.any_eq_false] at hb
  have := hb b hb'
  simp only [breaks, decide_eq_true_eq] at this
  show gx xs b.J.toNat - gx xs b.I.toNat ≤ b.C
  rw [gx_eq, gx_eq]
  omega
theorem accept_of {n : Nat} {l : List Bd} {xs : List Int} (hc : checkF n l = 0) (hl : xs.length = n) (hb : ∀ i, i < xs.length → -1152921504606846976 ≤ xs[i]! ∧ xs[i]! ≤ 1152921504606846976) (h : ∀ e ∈ l.map edge, gx xs e.j - gx xs e.i ≤ e.c) : acceptF n l xs = 0 := by
  unfold acceptF
  rw [if_neg (by omega), if_neg (by omega), if_neg, if_neg]
  · rw [Bool.not_eq_true, List.any_eq_false]
    intro b hb'
    have := h (edge b) (List.mem_map.2 ⟨b, hb', rfl⟩)
    simp only [breaks, decide_eq_true_eq]
    have h2 : gx xs b.J.toNat - gx xs b.I.toNat ≤ b.C := this
    rw [gx_eq, gx_eq] at h2
    omega
  · rw [any_none fun i hi => ?_]
    · exact Bool.false_ne_true
    · have := hb i hi
      rw [offX, decide_eq_false (by omega), decide_eq_false (by omega)]; rfl
/-- Solve's values are accepted -/
theorem solve_accept {n : Nat} {l : List Bd} (hc : checkF n l = 0) (hn : n ≤ 16) (hll : l.length ≤ 16) (hn1 : 1 ≤ n) (hV : Valid n l) (h0 : Ok0 n (l.map edge)) (hno : ∀ p, ¬ Neg (l.map edge) p) : acceptF n l (sweepN (l.map edge) (n - 1) (zeros_ n)) = 0 := by
  have hst := (sweepC_false (settled h0 (src_zeros n) hno (k := n - 1) (by omega) (by omega))).2
  have hlen : (sweepN (l.map edge) (n - 1) (zeros_ n)).length = n := by rw [sweepN_len]; simp [zeros_]
  have hz := fun v => zeros_le (n := n) (l.map edge) (n - 1) v
  have hbn : Bnd ((n - 1) * l.length) (sweepN (l.map edge) (n - 1) (zeros_ n)) := by
    have : ∀ i, Bnd (i * l.length) (sweepN (l.map edge) i (zeros_ n)) := by
      intro i
      induction i with
      | zero => rw [Nat.zero_mul]; exact zeros_bnd n
      | succ i ih =>
        rw [sweepN_succ, Nat.succ_mul, ← List.length_map edge]
        refine sweepX_bnd _ _ (fun e he => (hV.edges e he).2.2.1) ?_
        rw [List.length_map]; exact ih
    exact this _
  have hm : (n - 1) * l.length ≤ 16 * 16 := Nat.mul_le_mul (by omega) hll
  refine accept_of hc hlen (fun i hi => ?_) fun e he => ?_
  · have h1 := (hbn.mono (t' := 256) hm).get i
    rw [gx_eq] at h1
    unfold far at h1
    omega
  · have h1 := hst e he
    have h2 := hz e.i
    have : ¬ gx (sweepN (l.map edge) (n - 1) (zeros_ n)) e.i + e.c < gx (sweepN (l.map edge) (n - 1) (zeros_ n)) e.j := fun h => h1 ⟨by unfold far; omega, h⟩
    omega
end Go.Gh
