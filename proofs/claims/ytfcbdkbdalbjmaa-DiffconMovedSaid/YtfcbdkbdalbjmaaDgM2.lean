/-
  The least number of bounds of a closed chain below 0, and the conflict of so many: plainly.
-/
import Derived.Test.YtfcbdkbdalbjmaaDgConf
import Derived.Test.YtfcbdkbdalbjmaaDgShort
namespace Go.Gh
set_option linter.unusedSimpArgs false
set_option linter.unusedVariables false

theorem negAt_iff {n : Nat} {es : List Ed} (h0 : Ok0 n es) {k s : Nat} (hk : k ≤ 900) (hs : s < n) : negAt n es k s = true ↔ ∃ p, In es p ∧ p.length = k ∧ Ch s p s ∧ Su p < 0 := by
  obtain ⟨h1, h2⟩ := postRows_spec h0.1 h0.2.1 hs k hk hs
  unfold negAt
  rw [decide_eq_true_eq]
  constructor
  · intro h
    obtain ⟨p, p1, p2, p3, p4⟩ := h2 (by unfold far; omega)
    exact ⟨p, p1, p2, p3, by omega⟩
  · rintro ⟨p, p1, p2, p3, p4⟩
    have := (h1 p p1 p2 p3).1
    omega
theorem anyNeg_iff {n : Nat} {es : List Ed} (h0 : Ok0 n es) {k : Nat} (hk : k ≤ 900) (hk1 : 1 ≤ k) : (List.range n).any (negAt n es k) = true ↔ ∃ p, Neg es p ∧ p.length = k := by
  rw [List.any_eq_true]
  constructor
  · rintro ⟨s, hs, h⟩
    have hs : s < n := by simpa using hs
    obtain ⟨p, p1, p2, p3, p4⟩ := (negAt_iff h0 hk hs).1 h
    exact ⟨p, ⟨by rintro rfl; simp at p2; omega, p1, ⟨s, p3⟩, p4⟩, p2⟩
  · rintro ⟨p, ⟨p1, p2, ⟨s, p3⟩, p4⟩, p5⟩
    have hs : s < n := by
      cases p with
      | nil => exact absurd rfl p1
      | cons e q => have : e.i = s := p3.1; rw [← this]; exact (h0.2.1 e (p2 e (by simp))).1
    exact ⟨s, by simpa using hs, (negAt_iff h0 hk hs).2 ⟨p, p2, p5, p3, p4⟩⟩
theorem short_le {n : Nat} {es : List Ed} : ∀ (m size k : Nat), n + 1 - size ≤ m → size ≤ k → k ≤ n → (List.range n).any (negAt n es k) = true → shortF n es size ≤ k ∧ size ≤ shortF n es size ∧ (List.range n).any (negAt n es (shortF n es size)) = true
  | 0, size, k, h1, h2, h3, _ => by omega
  | m + 1, size, k, h1, h2, h3, h4 => by
    rw [short_step (by omega)]
    by_cases h : (List.range n).any (negAt n es size) = true
    · rw [if_pos h]; exact ⟨h2, Nat.le_refl _, h⟩
    · rw [if_neg h]
      have : size ≠ k := by rintro rfl; exact h h4
      obtain ⟨k1, k2, k3⟩ := short_le m (size + 1) k (by omega) (by omega) h3 h4
      exact ⟨k1, by omega, k3⟩
/-- where a closed chain is below 0: the least number of bounds of one -/
theorem short_spec {n : Nat} {es : List Ed} (h0 : Ok0 n es) (h : ∃ p, Neg es p) : 1 ≤ shortF n es 1 ∧ shortF n es 1 ≤ n ∧ (∃ p, Neg es p ∧ p.length = shortF n es 1) ∧ ∀ p, Neg es p → shortF n es 1 ≤ p.length := by
  have key : ∀ p, Neg es p → ∃ k, k ≤ p.length ∧ 1 ≤ k ∧ k ≤ n ∧ (List.range n).any (negAt n es k) = true := by
    intro p hp
    obtain ⟨q, q1, q2, q3, q4⟩ := Neg.simple p.length p (Nat.le_refl _) hp
    have hq : q.length ≤ n := by
      have := nodup_lt q3 (n := n) (by
        intro x hx
        obtain ⟨e, he, rfl⟩ := List.mem_map.1 hx
        exact (h0.2.1 e (q1.2.1 e he)).1)
      simpa using this
    have hq1 : 1 ≤ q.length := List.length_pos_iff.2 q1.1
    have := h0.2.2
    exact ⟨q.length, q4, hq1, hq, (anyNeg_iff h0 (by omega) hq1).2 ⟨q, q1, rfl⟩⟩
  have hn := h0.2.2
  obtain ⟨p, hp⟩ := h
  obtain ⟨k, k1, k2, k3, k4⟩ := key p hp
  obtain ⟨s1, s2, s3⟩ := short_le (n + 1) 1 k (by omega) k2 k3 k4
  refine ⟨s2, by omega, (anyNeg_iff h0 (by omega) s2).1 s3, fun p hp => ?_⟩
  obtain ⟨k, k1, k2, k3, k4⟩ := key p hp
  have := (short_le (n + 1) 1 k (by omega) k2 k3 k4).1
  omega

/-! ### the conflict -/
theorem Ch_rot {p q : List Ed} {u : Nat} (h : Ch u (p ++ q) u) : ∃ m, Ch m (q ++ p) m := by
  obtain ⟨m, h1, h2⟩ := Ch_app.1 h
  exact ⟨m, Ch_app.2 ⟨u, h2, h1⟩⟩
theorem drop_mem {es : List Ed} {f k : Nat} (h : f < k) (hk : k < es.length) : es[k]! ∈ es.drop (f + 1) := by
  rw [getElem!_pos es k hk]
  refine List.mem_iff_getElem.2 ⟨k - (f + 1), by rw [List.length_drop]; omega, ?_⟩
  rw [List.getElem_drop]
  congr 1; omega
theorem drop_idx {es : List Ed} {f : Nat} {e : Ed} (h : e ∈ es.drop (f + 1)) : ∃ k, f < k ∧ k < es.length ∧ es[k]! = e := by
  obtain ⟨i, hi, rfl⟩ := List.getElem_of_mem h
  rw [List.length_drop] at hi
  refine ⟨f + 1 + i, by omega, by omega, ?_⟩
  rw [getElem!_pos es _ (by omega), List.getElem_drop]
theorem Ok0.drop {n : Nat} {es : List Ed} (h : Ok0 n es) (k : Nat) : Csm (es.drop k) ∧ Nds n (es.drop k) :=
  ⟨fun e he => h.1 e (List.mem_of_mem_drop he), fun e he => h.2.1 e (List.mem_of_mem_drop he)⟩
theorem edge_mem {es : List Ed} {k : Nat} (h : k < es.length) : es[k]! ∈ es := by rw [getElem!_pos es k h]; exact List.getElem_mem h
/-- the greedy walk comes to its end -/
theorem greedy_ok {n : Nat} {es : List Ed} (h0 : Ok0 n es) {f dst : Nat} (hd : dst < n) : ∀ (r : Nat), r ≤ 900 → ∀ (at_ : Nat) (sum : Int), at_ < n → gx (preRows n (es.drop (f + 1)) dst r) at_ ≠ far → sum + gx (preRows n (es.drop (f + 1)) dst r) at_ < 0 →
    (greedyE es f (preRows n (es.drop (f + 1)) dst) r at_ sum).length = r ∧ (∀ k ∈ greedyE es f (preRows n (es.drop (f + 1)) dst) r at_ sum, f < k ∧ k < es.length) ∧
    Ch at_ ((greedyE es f (preRows n (es.drop (f + 1)) dst) r at_ sum).map fun k => es[k]!) dst ∧ sum + Su ((greedyE es f (preRows n (es.drop (f + 1)) dst) r at_ sum).map fun k => es[k]!) < 0
  | 0, _, at_, sum, ha, hf, hs => by
    have e : gx (preRows n (es.drop (f + 1)) dst 0) at_ = if dst = at_ then 0 else far := by
      show gx ((List.replicate n far).set dst 0) at_ = _
      rw [gx_set, List.length_replicate, gx_rep n far ha]
      by_cases h : dst = at_
      · rw [if_pos ⟨h, by omega⟩, if_pos h]
      · rw [if_neg (fun k => h k.1), if_neg h]
    rw [e] at hf hs
    by_cases h : dst = at_
    · rw [if_pos h] at hs
      exact ⟨rfl, by simp [greedyE], h.symm, by simpa [greedyE, Su] using hs⟩
    · rw [if_neg h] at hf; exact absurd rfl hf
  | r + 1, hr, at_, sum, ha, hf, hs => by
    have hsm := preRows_sml n (es.drop (f + 1)) dst (h0.drop (f + 1)).1 r
    obtain ⟨_, _, h3⟩ := foldl_pre_le hsm (by omega) (es.drop (f + 1)) (List.replicate n far) (h0.drop _).1 (h0.drop _).2 (by simp)
    obtain ⟨e, he, k1, k2, k3⟩ : ∃ e ∈ es.drop (f + 1), e.i = at_ ∧ gx (preRows n (es.drop (f + 1)) dst r) e.j ≠ far ∧ gx (preRows n (es.drop (f + 1)) dst (r + 1)) at_ = e.c + gx (preRows n (es.drop (f + 1)) dst r) e.j := by
      rcases h3 at_ with h | h
      · rw [gx_rep n far ha] at h; exact absurd h hf
      · exact h
    obtain ⟨k, kf, kl, rfl⟩ := drop_idx he
    have hgood : goodE es (preRows n (es.drop (f + 1)) dst r) at_ sum k = true := by
      unfold goodE
      rw [decide_eq_true k1, decide_eq_true k2, decide_eq_true (by omega)]; rfl
    obtain ⟨i, hi⟩ : ∃ i, pickE es (preRows n (es.drop (f + 1)) dst r) at_ sum (f + 1) = some i := by
      unfold pickE
      cases hp : (List.range' (f + 1) (es.length - (f + 1))).find? (goodE es (preRows n (es.drop (f + 1)) dst r) at_ sum) with
      | some i => exact ⟨i, rfl⟩
      | none => exact absurd hgood (List.find?_eq_none.1 hp k (by rw [List.mem_range'_1]; omega))
    have hig := List.find?_some hi
    have him := List.mem_of_find?_eq_some hi
    rw [List.mem_range'_1] at him
    unfold goodE at hig
    simp only [Bool.and_eq_true, decide_eq_true_eq] at hig
    obtain ⟨g1, g2, g3⟩ := hig
    have hil : i < es.length := by omega
    obtain ⟨r1, r2, r3, r4⟩ := greedy_ok h0 (f := f) hd r (by omega) es[i]!.j (sum + es[i]!.c) (h0.2.1 _ (edge_mem hil)).2 g2 g3
    have hg : greedyE es f (preRows n (es.drop (f + 1)) dst) (r + 1) at_ sum = i :: greedyE es f (preRows n (es.drop (f + 1)) dst) r es[i]!.j (sum + es[i]!.c) := by
      conv => lhs; rw [greedyE, hi]
    rw [hg]
    refine ⟨by rw [List.length_cons, r1], fun k hk => ?_, ⟨g1, r3⟩, ?_⟩
    · rcases List.mem_cons.1 hk with rfl | hk
      · omega
      · exact r2 k hk
    · rw [List.map_cons, Su_cons]; omega
theorem confAt_some {n : Nat} {es : List Ed} (h0 : Ok0 n es) {z f : Nat} (hz : z ≤ 900) (hf : f < es.length) {c : List Nat} (h : confAt n es z f = some c) :
    c.length = z + 1 ∧ (∀ k ∈ c, k < es.length) ∧ Neg es (c.map fun k => es[k]!) := by
  unfold confAt at h
  split at h
  · cases h
  · rename_i hn
    have h1 : gx (preRows n (es.drop (f + 1)) es[f]!.i z) es[f]!.j ≠ far := fun e => hn (.inl e)
    have h2 : es[f]!.c + gx (preRows n (es.drop (f + 1)) es[f]!.i z) es[f]!.j < 0 := by
      have : ¬ 0 ≤ es[f]!.c + gx (preRows n (es.drop (f + 1)) es[f]!.i z) es[f]!.j := fun e => hn (.inr e)
      omega
    obtain ⟨hi, hj⟩ := h0.2.1 _ (edge_mem hf)
    obtain ⟨r1, r2, r3, r4⟩ := greedy_ok h0 (f := f) hi z hz es[f]!.j es[f]!.c hj h1 h2
    cases h
    refine ⟨by rw [List.length_cons, r1], fun k hk => ?_, by simp, fun e he => ?_, ⟨es[f]!.i, rfl, r3⟩, ?_⟩
    · rcases List.mem_cons.1 hk with rfl | hk
      · exact hf
      · exact (r2 k hk).2
    · obtain ⟨k, hk, rfl⟩ := List.mem_map.1 he
      rcases List.mem_cons.1 hk with rfl | hk
      · exact edge_mem hf
      · exact edge_mem (r2 k hk).2
    · rw [List.map_cons, Su_cons]; exact r4
theorem confFrom_some {n : Nat} {es : List Ed} {z : Nat} : ∀ (m i : Nat), es.length - i ≤ m → (∃ f c, i ≤ f ∧ f < es.length ∧ confAt n es z f = some c ∧ c ≠ [] ∧ confFrom n es z i = c) ∨ ((∀ f, i ≤ f → f < es.length → confAt n es z f = none) ∧ confFrom n es z i = [])
  | 0, i, h => .inr ⟨fun f h1 h2 => by omega, conf_end (by omega)⟩
  | m + 1, i, h => by
    by_cases hi : i < es.length
    · rw [conf_step hi]
      cases hc : confAt n es z i with
      | some c => exact .inl ⟨i, c, Nat.le_refl _, hi, hc, by unfold confAt at hc; split at hc <;> cases hc; simp, rfl⟩
      | none =>
        rcases confFrom_some (n := n) (es := es) (z := z) m (i + 1) (by omega) with ⟨f, c, h1, h2, h3⟩ | ⟨h1, h2⟩
        · exact .inl ⟨f, c, by omega, h2, h3⟩
        · refine .inr ⟨fun f h3 h4 => ?_, h2⟩
          by_cases e : f = i
          · subst e; exact hc
          · exact h1 f (by omega) h4
    · exact .inr ⟨fun f h1 h2 => by omega, conf_end (by omega)⟩
/-- what a conflict is -/
theorem conf_spec {n : Nat} {es : List Ed} (h0 : Ok0 n es) {z : Nat} (hz : z ≤ 900) : (confF n es z = [] ∧ ∀ f, f < es.length → confAt n es z f = none) ∨ (confF n es z ≠ [] ∧ (confF n es z).length = z + 1 ∧ (∀ k ∈ confF n es z, k < es.length) ∧ Neg es ((confF n es z).map fun k => es[k]!)) := by
  rcases confFrom_some (n := n) (es := es) (z := z) es.length 0 (by omega) with ⟨f, c, h1, h2, h3, h4, h5⟩ | ⟨h1, h2⟩
  · obtain ⟨k1, k2, k3⟩ := confAt_some h0 hz h2 h3
    refine .inr ?_
    show confFrom n es z 0 ≠ [] ∧ _
    unfold confF
    rw [h5]
    exact ⟨h4, k1, k2, k3⟩
  · exact .inl ⟨h2, fun f hf => h1 f (by omega) hf⟩
theorem conf_none {n : Nat} {es : List Ed} (h0 : Ok0 n es) {z : Nat} (hz : z ≤ 900) (h : ∀ p, Neg es p → z + 1 < p.length) : confF n es z = [] := by
  rcases conf_spec h0 hz with h1 | ⟨_, h2, _, h4⟩
  · exact h1.1
  · have := h _ h4
    rw [List.length_map] at this
    omega
theorem min_split {l : List Ed} {g : Ed → Nat} : l ≠ [] → ∃ a x b, l = a ++ x :: b ∧ ∀ y ∈ l, g x ≤ g y := by
  induction l with
  | nil => intro h; exact absurd rfl h
  | cons x l ih =>
    intro _
    by_cases hl : l = []
    · subst hl; exact ⟨[], x, [], rfl, by simp⟩
    · obtain ⟨a, y, b, e, h⟩ := ih hl
      by_cases hxy : g x ≤ g y
      · refine ⟨[], x, l, rfl, fun z hz => ?_⟩
        rcases List.mem_cons.1 hz with rfl | hz
        · exact Nat.le_refl _
        · exact Nat.le_trans hxy (h z hz)
      · refine ⟨x :: a, y, b, by rw [e]; rfl, fun z hz => ?_⟩
        rcases List.mem_cons.1 hz with rfl | hz
        · omega
        · exact h z hz
/-- the least number of bounds has a conflict -/
theorem conf_least {n : Nat} {es : List Ed} (h0 : Ok0 n es) {z : Nat} (hz : z ≤ 900) (hmin : ∀ p, Neg es p → z + 1 ≤ p.length) (hex : ∃ p, Neg es p ∧ p.length = z + 1) : confF n es z ≠ [] := by
  rcases conf_spec h0 hz with ⟨_, h1⟩ | h1
  · exfalso
    obtain ⟨p, hp, hpl⟩ := hex
    obtain ⟨q, q1, _, q3, q4⟩ := Neg.simple p.length p (Nat.le_refl _) hp
    have hql : q.length = z + 1 := by have := hmin q q1; omega
    -- an index for each edge
    have hidx : ∀ e, e ∈ es → ∃ k, k < es.length ∧ es[k]! = e := fun e he => by
      obtain ⟨k, hk, rfl⟩ := List.getElem_of_mem he
      exact ⟨k, hk, getElem!_pos es k hk⟩
    classical
    let g : Ed → Nat := fun e => if h : e ∈ es then Classical.choose (hidx e h) else 0
    have hg : ∀ e, e ∈ es → g e < es.length ∧ es[g e]! = e := fun e he => by
      have := Classical.choose_spec (hidx e he)
      simp only [g, dif_pos he]; exact this
    obtain ⟨hne, hin, ⟨u, hch⟩, hsu⟩ := q1
    obtain ⟨a, x, b, e, hle⟩ := min_split (g := g) hne
    have hx : x ∈ es := hin x (by rw [e]; simp)
    rw [e] at hch
    obtain ⟨m, hch2⟩ := Ch_rot hch
    have hm : x.i = m := hch2.1
    -- the others come behind
    have hnd : ∀ y ∈ b ++ a, y ∈ es.drop (g x + 1) := by
      intro y hy
      have hyq : y ∈ q := by rw [e]; simp at hy ⊢; rcases hy with h | h <;> simp [h]
      have hyes := hin y hyq
      have hne2 : y.i ≠ x.i := by
        rw [e, List.map_append, List.map_cons, List.nodup_append] at q3
        obtain ⟨n1, n2, n3⟩ := q3
        rcases List.mem_append.1 hy with h | h
        · intro hh
          exact (List.nodup_cons.1 n2).1 (by rw [← hh]; exact List.mem_map.2 ⟨y, h, rfl⟩)
        · exact n3 y.i (List.mem_map.2 ⟨y, h, rfl⟩) x.i (by simp)
      have hlt : g x < g y := by
        rcases Nat.lt_or_ge (g x) (g y) with h | h
        · exact h
        · have h2 := hle y hyq
          have : g x = g y := by omega
          have e1 := (hg x hx).2
          have e2 := (hg y hyes).2
          rw [this, e2] at e1
          exact absurd (by rw [e1]) hne2
      rw [← (hg y hyes).2]
      exact drop_mem hlt (hg y hyes).1
    have hxe := (hg x hx).2
    obtain ⟨hi, hj⟩ := h0.2.1 x hx
    have hlen : (b ++ a).length = z := by rw [← Nat.add_right_cancel_iff (n := 1), ← hql, e]; simp; omega
    have hsp := (preRows_spec (h0.drop (g x + 1)).1 (h0.drop (g x + 1)).2 hi z hz x.j hj).1 (b ++ a) hnd hlen (by rw [hm]; exact hch2.2)
    have hsum : x.c + Su (b ++ a) < 0 := by
      rw [e, Su_app, Su_cons] at hsu
      rw [Su_app]; omega
    have := h1 (g x) (hg x hx).1
    unfold confAt at this
    rw [hxe, if_neg] at this
    · cases this
    · rintro (h | h)
      · exact hsp.2 h
      · omega
  · exact h1.1
end Go.Gh
