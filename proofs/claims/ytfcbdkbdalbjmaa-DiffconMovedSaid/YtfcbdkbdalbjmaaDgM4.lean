/-
  Fewer bounds than a conflict's, a bound made tighter, other origins: plainly.
-/
import Derived.Test.YtfcbdkbdalbjmaaDgM3
namespace Go.Gh
set_option linter.unusedSimpArgs false
set_option linter.unusedVariables false

theorem nodes_nodup_le {p m : List Ed} (hn : (p.map (·.i)).Nodup) (hs : ∀ e ∈ p, e ∈ m) : p.length ≤ m.length := by
  have := nodup_sub (m := m.map (·.i)) hn fun x hx => by
    obtain ⟨e, he, rfl⟩ := List.mem_map.1 hx
    exact List.mem_map.2 ⟨e, hs e he, rfl⟩
  simpa using this
/-- any bounds that are fewer can be met -/
theorem fewer_noneg {es m : List Ed} {s : Nat} (hs : ∀ e ∈ m, e ∈ es) (hl : m.length < s) (hmin : ∀ p, Neg es p → s ≤ p.length) : ∀ p, ¬ Neg m p := by
  intro p hp
  obtain ⟨q, q1, _, q3, _⟩ := Neg.simple p.length p (Nat.le_refl _) hp
  have h1 := nodes_nodup_le q3 q1.2.1
  have h2 := hmin q ⟨q1.1, fun e he => hs e (q1.2.1 e he), q1.2.2.1, q1.2.2.2⟩
  omega
theorem chkL_of {n : Int} : ∀ {l : List Bd}, (∀ b ∈ l, chk1 n b = 0) → chkL n l = 0
  | [], _ => rfl
  | b :: l, h => by unfold chkL; rw [if_pos (h b (by simp))]; exact chkL_of fun c hc => h c (by simp [hc])
theorem chk1_of {n : Int} {b : Bd} (h : 0 ≤ b.I ∧ b.I < n ∧ 0 ≤ b.J ∧ b.J < n ∧ -1099511627776 ≤ b.C ∧ b.C ≤ 1099511627776) : chk1 n b = 0 := by
  unfold chk1
  rw [if_neg (by unfold badIdx; omega), if_neg (by unfold badC; omega)]
theorem check_of {n : Nat} {l : List Bd} (hn : 1 ≤ n) (hn2 : n ≤ 512) (hl : l.length ≤ 4000) (hV : Valid n l) : checkF n l = 0 := by
  unfold checkF
  rw [if_neg (by omega), if_neg (by omega)]
  exact chkL_of fun b hb => chk1_of (hV b hb)
theorem solve_met {n : Nat} {l : List Bd} (hn1 : 1 ≤ n) (hn : n ≤ 16) (hV : Valid n l) (hl : l.length ≤ 4000) (h : ∀ p, ¬ Neg (l.map edge) p) : (solveF n l).2.2 = 0 := by
  have hc := check_of hn1 (by omega) hl hV
  rcases solve_cases (n := n) (l := l) (by omega) with ⟨h1, _⟩ | ⟨N, e, _, _, _, _, _, hF⟩ | ⟨N, e, _, _, _, _, ⟨p, hp⟩, _⟩
  · exact absurd hc h1
  · rw [hF]
  · exact absurd hp (h p)
theorem solve_not {n : Nat} {l : List Bd} (hn1 : 1 ≤ n) (hn : n ≤ 16) (hV : Valid n l) (hl : l.length ≤ 4000) (h : ∃ p, Neg (l.map edge) p) : (solveF n l).2.2 = 16 := by
  have hc := check_of hn1 (by omega) hl hV
  rcases solve_cases (n := n) (l := l) (by omega) with ⟨h1, _⟩ | ⟨N, e, _, _, _, _, hno, _⟩ | ⟨N, e, _, _, _, _, _, hF⟩
  · exact absurd hc h1
  · obtain ⟨p, hp⟩ := h; exact absurd hp (hno p)
  · rw [hF]

/-! ### other origins -/
def shE (π : Nat → Int) (e : Ed) : Ed := ⟨e.i, e.j, e.c + (π e.j - π e.i)⟩
theorem sh_sh (π : Nat → Int) (e : Ed) : shE (fun v => -π v) (shE π e) = e := by
  unfold shE; cases e; simp only [Ed.mk.injEq, true_and]; omega
theorem Ch_sh {π : Nat → Int} : ∀ {p : List Ed} {u v : Nat}, Ch u p v → Ch u (p.map (shE π)) v ∧ Su (p.map (shE π)) = Su p + (π v - π u)
  | [], u, v, h => by obtain rfl : u = v := h; exact ⟨rfl, by simp [Su]⟩
  | e :: p, u, v, ⟨h1, h2⟩ => by
    obtain ⟨k1, k2⟩ := Ch_sh (π := π) h2
    refine ⟨⟨h1, k1⟩, ?_⟩
    rw [List.map_cons, Su_cons, Su_cons, k2, ← h1]
    show e.c + (π e.j - π e.i) + _ = _
    omega
theorem In_sh {π : Nat → Int} {es p : List Ed} (h : In es p) : In (es.map (shE π)) (p.map (shE π)) := by
  intro e he
  obtain ⟨f, hf, rfl⟩ := List.mem_map.1 he
  exact List.mem_map.2 ⟨f, h f hf, rfl⟩
theorem unsh (π : Nat → Int) (es : List Ed) : (es.map (shE π)).map (shE fun v => -π v) = es := by
  rw [List.map_map]; exact (List.map_congr_left fun e _ => sh_sh π e).trans (List.map_id es)
theorem Neg_sh {π : Nat → Int} {es p : List Ed} (h : Neg es p) : Neg (es.map (shE π)) (p.map (shE π)) := by
  obtain ⟨h1, h2, ⟨u, h3⟩, h4⟩ := h
  obtain ⟨k1, k2⟩ := Ch_sh (π := π) h3
  exact ⟨by simpa using h1, In_sh h2, ⟨u, k1⟩, by omega⟩
theorem Neg_unsh {π : Nat → Int} {es p : List Ed} (h : Neg (es.map (shE π)) p) : Neg es (p.map (shE fun v => -π v)) := by
  have := Neg_sh (π := fun v => -π v) h
  rwa [unsh] at this
theorem short_sh {n : Nat} {es : List Ed} {π : Nat → Int} (h0 : Ok0 n es) (h1 : Ok0 n (es.map (shE π))) (h : ∃ p, Neg es p) : shortF n (es.map (shE π)) 1 = shortF n es 1 := by
  obtain ⟨p, hp⟩ := h
  obtain ⟨_, _, ⟨q, q1, q2⟩, a4⟩ := short_spec h0 ⟨p, hp⟩
  obtain ⟨_, _, ⟨r, r1, r2⟩, b4⟩ := short_spec h1 ⟨_, Neg_sh (π := π) hp⟩
  have e1 := a4 _ (Neg_unsh r1)
  have e2 := b4 _ (Neg_sh (π := π) q1)
  rw [List.length_map] at e1 e2
  omega
theorem rows_sh {n : Nat} {es : List Ed} {π : Nat → Int} (hc : Csm es) (hn : Nds n es) (hc' : Csm (es.map (shE π))) {dst : Nat} (hd : dst < n) {r : Nat} (hr : r ≤ 900) {u : Nat} (hu : u < n) :
    (gx (preRows n (es.map (shE π)) dst r) u = far ↔ gx (preRows n es dst r) u = far) ∧ (gx (preRows n es dst r) u ≠ far → gx (preRows n (es.map (shE π)) dst r) u = gx (preRows n es dst r) u + (π dst - π u)) := by
  have hn' : Nds n (es.map (shE π)) := by
    intro e he
    obtain ⟨f, hf, rfl⟩ := List.mem_map.1 he
    exact hn f hf
  obtain ⟨a1, a2⟩ := preRows_spec hc hn hd r hr u hu
  obtain ⟨b1, b2⟩ := preRows_spec hc' hn' hd r hr u hu
  have fwd : gx (preRows n es dst r) u ≠ far → gx (preRows n (es.map (shE π)) dst r) u ≤ gx (preRows n es dst r) u + (π dst - π u) ∧ gx (preRows n (es.map (shE π)) dst r) u ≠ far := by
    intro h
    obtain ⟨p, p1, p2, p3, p4⟩ := a2 h
    obtain ⟨k1, k2⟩ := Ch_sh (π := π) p3
    obtain ⟨c1, c2⟩ := b1 _ (In_sh p1) (by simpa using p2) k1
    exact ⟨by omega, c2⟩
  have bwd : gx (preRows n (es.map (shE π)) dst r) u ≠ far → gx (preRows n es dst r) u ≤ gx (preRows n (es.map (shE π)) dst r) u - (π dst - π u) ∧ gx (preRows n es dst r) u ≠ far := by
    intro h
    obtain ⟨p, p1, p2, p3, p4⟩ := b2 h
    obtain ⟨k1, k2⟩ := Ch_sh (π := fun v => -π v) p3
    have i1 := In_sh (π := fun v => -π v) p1
    rw [unsh] at i1
    obtain ⟨c1, c2⟩ := a1 _ i1 (by simpa using p2) k1
    exact ⟨by omega, c2⟩
  refine ⟨⟨fun h => ?_, fun h => ?_⟩, fun h => ?_⟩
  · apply Classical.byContradiction; intro h2; exact (fwd h2).2 h
  · apply Classical.byContradiction; intro h2; exact (bwd h2).2 h
  · have h2 := fwd h
    have h3 := bwd h2.2
    omega
theorem sh_at {π : Nat → Int} {es : List Ed} {k : Nat} (h : k < es.length) : (es.map (shE π))[k]! = shE π es[k]! := by
  rw [getElem!_pos _ k (by simpa using h), getElem!_pos es k h, List.getElem_map]
theorem greedy_sh {n : Nat} {es : List Ed} {π : Nat → Int} (h0 : Ok0 n es) (h1 : Ok0 n (es.map (shE π))) {f dst : Nat} (hd : dst < n) : ∀ (r : Nat), r ≤ 900 → ∀ (at_ : Nat) (sum : Int),
    greedyE (es.map (shE π)) f (preRows n ((es.map (shE π)).drop (f + 1)) dst) r at_ (sum + (π at_ - π dst)) = greedyE es f (preRows n (es.drop (f + 1)) dst) r at_ sum
  | 0, _, _, _ => rfl
  | r + 1, hr, at_, sum => by
    have hdr : (es.map (shE π)).drop (f + 1) = (es.drop (f + 1)).map (shE π) := (List.map_drop ..).symm
    have hgood : ∀ i, i < es.length → goodE (es.map (shE π)) (preRows n ((es.map (shE π)).drop (f + 1)) dst r) at_ (sum + (π at_ - π dst)) i = goodE es (preRows n (es.drop (f + 1)) dst r) at_ sum i := by
      intro i hi
      unfold goodE
      rw [sh_at hi]
      have hj := (h0.2.1 _ (edge_mem hi)).2
      obtain ⟨k1, k2⟩ := rows_sh (π := π) (h0.drop (f + 1)).1 (h0.drop (f + 1)).2 (by rw [← hdr]; exact (h1.drop (f + 1)).1) hd (r := r) (by omega) hj
      rw [hdr]
      show (decide (es[i]!.i = at_) && (decide (gx (preRows n ((es.drop (f + 1)).map (shE π)) dst r) es[i]!.j ≠ far) && decide (sum + (π at_ - π dst) + (es[i]!.c + (π es[i]!.j - π es[i]!.i)) + gx (preRows n ((es.drop (f + 1)).map (shE π)) dst r) es[i]!.j < 0))) = _
      by_cases ha : es[i]!.i = at_
      · by_cases hf : gx (preRows n (es.drop (f + 1)) dst r) es[i]!.j = far
        · have a1 : decide (gx (preRows n ((es.drop (f + 1)).map (shE π)) dst r) es[i]!.j ≠ far) = false := decide_eq_false (fun h => h (k1.2 hf))
          have a2 : decide (gx (preRows n (es.drop (f + 1)) dst r) es[i]!.j ≠ far) = false := decide_eq_false (fun h => h hf)
          rw [a1, a2]; simp
        · rw [k2 hf, ha]
          have e : (sum + (π at_ - π dst) + (es[i]!.c + (π es[i]!.j - π at_)) + (gx (preRows n (es.drop (f + 1)) dst r) es[i]!.j + (π dst - π es[i]!.j)) < 0) ↔ (sum + es[i]!.c + gx (preRows n (es.drop (f + 1)) dst r) es[i]!.j < 0) := by omega
          have e2 : (gx (preRows n (es.drop (f + 1)) dst r) es[i]!.j + (π dst - π es[i]!.j) ≠ far) := by
            rw [← k2 hf]; exact fun h => hf (k1.1 h)
          rw [decide_eq_decide.2 e, decide_eq_true e2, decide_eq_true hf]
      · rw [decide_eq_false ha]; rfl
    have hpick : pickE (es.map (shE π)) (preRows n ((es.map (shE π)).drop (f + 1)) dst r) at_ (sum + (π at_ - π dst)) (f + 1) = pickE es (preRows n (es.drop (f + 1)) dst r) at_ sum (f + 1) := by
      have key : ∀ l : List Nat, (∀ i ∈ l, i < es.length) → l.find? (goodE (es.map (shE π)) (preRows n ((es.map (shE π)).drop (f + 1)) dst r) at_ (sum + (π at_ - π dst))) = l.find? (goodE es (preRows n (es.drop (f + 1)) dst r) at_ sum) := by
        intro l
        induction l with
        | nil => intro _; rfl
        | cons a l ih =>
          intro h
          rw [List.find?_cons, List.find?_cons, hgood a (h a (by simp)), ih fun i hi => h i (by simp [hi])]
      unfold pickE
      rw [List.length_map]
      exact key _ fun i hi => by rw [List.mem_range'_1] at hi; omega
    have e1 : greedyE (es.map (shE π)) f (preRows n ((es.map (shE π)).drop (f + 1)) dst) (r + 1) at_ (sum + (π at_ - π dst)) = match pickE (es.map (shE π)) (preRows n ((es.map (shE π)).drop (f + 1)) dst r) at_ (sum + (π at_ - π dst)) (f + 1) with
        | some i => i :: greedyE (es.map (shE π)) f (preRows n ((es.map (shE π)).drop (f + 1)) dst) r (es.map (shE π))[i]!.j (sum + (π at_ - π dst) + (es.map (shE π))[i]!.c)
        | none => greedyE (es.map (shE π)) f (preRows n ((es.map (shE π)).drop (f + 1)) dst) r at_ (sum + (π at_ - π dst)) := rfl
    have e2 : greedyE es f (preRows n (es.drop (f + 1)) dst) (r + 1) at_ sum = match pickE es (preRows n (es.drop (f + 1)) dst r) at_ sum (f + 1) with
        | some i => i :: greedyE es f (preRows n (es.drop (f + 1)) dst) r es[i]!.j (sum + es[i]!.c)
        | none => greedyE es f (preRows n (es.drop (f + 1)) dst) r at_ sum := rfl
    rw [e1, e2, hpick]
    cases hp : pickE es (preRows n (es.drop (f + 1)) dst r) at_ sum (f + 1) with
    | none => exact greedy_sh h0 h1 hd r (by omega) at_ sum
    | some i =>
      have hi := List.mem_of_find?_eq_some hp
      rw [List.mem_range'_1] at hi
      have hig := List.find?_some hp
      unfold goodE at hig
      simp only [Bool.and_eq_true, decide_eq_true_eq] at hig
      simp only
      rw [sh_at (by omega)]
      congr 1
      have := greedy_sh h0 h1 hd (f := f) r (by omega) es[i]!.j (sum + es[i]!.c)
      rw [← this]
      show greedyE _ _ _ r es[i]!.j (sum + (π at_ - π dst) + (es[i]!.c + (π es[i]!.j - π es[i]!.i))) = _
      rw [hig.1]
      congr 1
      omega
/-- the conflict is the same -/
theorem conf_sh {n : Nat} {es : List Ed} {π : Nat → Int} (h0 : Ok0 n es) (h1 : Ok0 n (es.map (shE π))) {z : Nat} (hz : z ≤ 900) : confF n (es.map (shE π)) z = confF n es z := by
  have hat : ∀ f, f < es.length → confAt n (es.map (shE π)) z f = confAt n es z f := by
    intro f hf
    have hdr : (es.map (shE π)).drop (f + 1) = (es.drop (f + 1)).map (shE π) := (List.map_drop ..).symm
    obtain ⟨hi, hj⟩ := h0.2.1 _ (edge_mem hf)
    obtain ⟨k1, k2⟩ := rows_sh (π := π) (h0.drop (f + 1)).1 (h0.drop (f + 1)).2 (by rw [← hdr]; exact (h1.drop (f + 1)).1) hi (r := z) hz hj
    have hg := greedy_sh h0 h1 (f := f) hi z hz es[f]!.j es[f]!.c
    unfold confAt
    rw [sh_at hf]
    have c1 : (gx (preRows n ((es.map (shE π)).drop (f + 1)) (shE π es[f]!).i z) (shE π es[f]!).j = far ∨ 0 ≤ (shE π es[f]!).c + gx (preRows n ((es.map (shE π)).drop (f + 1)) (shE π es[f]!).i z) (shE π es[f]!).j) ↔
        (gx (preRows n (es.drop (f + 1)) es[f]!.i z) es[f]!.j = far ∨ 0 ≤ es[f]!.c + gx (preRows n (es.drop (f + 1)) es[f]!.i z) es[f]!.j) := by
      rw [hdr]
      show (gx (preRows n ((es.drop (f + 1)).map (shE π)) es[f]!.i z) es[f]!.j = far ∨ 0 ≤ es[f]!.c + (π es[f]!.j - π es[f]!.i) + gx (preRows n ((es.drop (f + 1)).map (shE π)) es[f]!.i z) es[f]!.j) ↔ _
      by_cases hfar : gx (preRows n (es.drop (f + 1)) es[f]!.i z) es[f]!.j = far
      · exact ⟨fun _ => .inl hfar, fun _ => .inl (k1.2 hfar)⟩
      · have := k2 hfar
        constructor
        · rintro (h | h)
          · exact absurd (k1.1 h) hfar
          · right; omega
        · rintro (h | h)
          · exact absurd h hfar
          · right; omega
    by_cases hc : gx (preRows n (es.drop (f + 1)) es[f]!.i z) es[f]!.j = far ∨ 0 ≤ es[f]!.c + gx (preRows n (es.drop (f + 1)) es[f]!.i z) es[f]!.j
    · rw [if_pos hc, if_pos (c1.2 hc)]
    · rw [if_neg hc, if_neg (fun h => hc (c1.1 h))]
      exact congrArg (fun t => some (f :: t)) hg
  unfold confF confFrom
  rw [List.length_map]
  have key : ∀ l : List Nat, (∀ i ∈ l, i < es.length) → l.findSome? (confAt n (es.map (shE π)) z) = l.findSome? (confAt n es z) := by
    intro l
    induction l with
    | nil => intro _; rfl
    | cons a l ih =>
      intro h
      rw [List.findSome?_cons, List.findSome?_cons, hat a (h a (by simp)), ih fun i hi => h i (by simp [hi])]
  rw [key _ fun i hi => by rw [List.mem_range'_1] at hi; omega]
end Go.Gh
