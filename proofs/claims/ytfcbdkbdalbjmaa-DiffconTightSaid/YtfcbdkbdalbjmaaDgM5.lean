/-
  A bound with its slack taken away, plainly.
-/
import Derived.Test.YtfcbdkbdalbjmaaDgM4
import Derived.Test.YtfcbdkbdalbjmaaDgSlack
namespace Go.Gh
set_option linter.unusedSimpArgs false
set_option linter.unusedVariables false

theorem set_mem {es : List Ed} {i : Nat} {e f : Ed} (h : f ∈ es.set i e) : f = e ∨ f ∈ es := by
  rcases List.mem_or_eq_of_mem_set h with h | h
  · exact .inr h
  · exact .inl h
/-- the least sum of a chain from J to I -/
structure Dist (es : List Ed) (J I : Nat) (d : Int) : Prop where
  le : ∀ p, In es p → Ch J p I → d ≤ Su p
  ex : ∃ p, In es p ∧ Ch J p I ∧ Su p = d
theorem tight_noneg {n : Nat} {es : List Ed} (h0 : Ok0 n es) (hno : ∀ p, ¬ Neg es p) {i I J : Nat} {d : Int} (hd : Dist es J I d) : ∀ p, ¬ Neg (es.set i ⟨I, J, -d⟩) p := by
  intro p hp
  obtain ⟨q, ⟨q1, q2, ⟨u, q3⟩, q4⟩, _, q5, _⟩ := Neg.simple p.length p (Nat.le_refl _) hp
  by_cases hm : (⟨I, J, -d⟩ : Ed) ∈ q
  · obtain ⟨a, b, rfl⟩ := List.append_of_mem hm
    obtain ⟨m, hr⟩ := Ch_rot q3
    have hmI : I = m := hr.1
    subst hmI
    have hin : In es (b ++ a) := by
      intro f hf
      have hfq : f ∈ a ++ ⟨I, J, -d⟩ :: b := by
        rcases List.mem_append.1 hf with h | h <;> simp [h]
      rcases set_mem (q2 f hfq) with h | h
      · exfalso
        rw [List.map_append, List.map_cons, List.nodup_append] at q5
        obtain ⟨n1, n2, n3⟩ := q5
        rcases List.mem_append.1 hf with h2 | h2
        · exact (List.nodup_cons.1 n2).1 (List.mem_map.2 ⟨f, h2, by rw [h]⟩)
        · exact n3 f.i (List.mem_map.2 ⟨f, h2, rfl⟩) I (by simp) (by rw [h])
      · exact h
    have := hd.le _ hin hr.2
    rw [Su_app, Su_cons] at q4
    rw [Su_app] at this
    have hc : (⟨I, J, -d⟩ : Ed).c = -d := rfl
    omega
  · refine hno q ⟨q1, fun f hf => ?_, ⟨u, q3⟩, q4⟩
    rcases set_mem (q2 f hf) with h | h
    · subst h; exact absurd hf hm
    · exact h
theorem tight_neg {es : List Ed} {i : Nat} (hi : i < es.length) {d c : Int} (hd : Dist es es[i]!.j es[i]!.i d) (hc : c < -d) (hle : c ≤ es[i]!.c) : ∃ p, Neg (es.set i ⟨es[i]!.i, es[i]!.j, c⟩) p := by
  classical
  obtain ⟨p, p1, p2, p3⟩ := hd.ex
  have hnew : (⟨es[i]!.i, es[i]!.j, c⟩ : Ed) ∈ es.set i ⟨es[i]!.i, es[i]!.j, c⟩ := by
    refine List.mem_iff_getElem.2 ⟨i, by simpa using hi, by simp⟩
  have hex : ∀ (p : List Ed) (u v : Nat), In es p → Ch u p v → ∃ q, In (es.set i ⟨es[i]!.i, es[i]!.j, c⟩) q ∧ Ch u q v ∧ Su q ≤ Su p := by
    intro p
    induction p with
    | nil => intro u v _ h; exact ⟨[], by simp [In], h, Int.le_refl _⟩
    | cons e p ih =>
      intro u v hin hch
      obtain ⟨i1, i2⟩ := In.cons.1 hin
      obtain ⟨q, q1, q2, q3⟩ := ih _ _ i2 hch.2
      by_cases he : e ∈ es.set i ⟨es[i]!.i, es[i]!.j, c⟩
      · exact ⟨e :: q, In.cons.2 ⟨he, q1⟩, ⟨hch.1, q2⟩, by rw [Su_cons, Su_cons]; omega⟩
      · obtain ⟨k, hk, rfl⟩ := List.getElem_of_mem i1
        have hki : k = i := by
          apply Classical.byContradiction
          intro hne
          exact he (List.mem_iff_getElem.2 ⟨k, by simpa using hk, by rw [List.getElem_set_ne (Ne.symm hne)]⟩)
        subst hki
        have hke : es[k]! = es[k] := getElem!_pos es k hk
        refine ⟨⟨es[k]!.i, es[k]!.j, c⟩ :: q, In.cons.2 ⟨hnew, q1⟩, ⟨by rw [hke]; exact hch.1, by rw [hke]; exact q2⟩, ?_⟩
        rw [Su_cons, Su_cons]
        rw [hke] at hle
        show c + Su q ≤ _
        omega
  obtain ⟨q, q1, q2, q3⟩ := hex p _ _ p1 p2
  refine ⟨⟨es[i]!.i, es[i]!.j, c⟩ :: q, by simp, In.cons.2 ⟨hnew, q1⟩, ⟨es[i]!.i, rfl, q2⟩, ?_⟩
  rw [Su_cons]
  show c + Su q < 0
  omega
/-- what Slack computes is the least sum -/
theorem dist_of {n : Nat} {es : List Ed} (h0 : Ok0 n es) (hn1 : 1 ≤ n) (hno : ∀ p, ¬ Neg es p) {J I : Nat} (hJ : J < n) (hI : I < n) (hf : (relaxF es (n + 1) (srcX n J)).1[I]! ≠ 1152921504606846976) : Dist es J I (relaxF es (n + 1) (srcX n J)).1[I]! := by
  have hsrc := src_srcX hJ
  rw [relax_eq h0 hsrc hno (Nat.le_succ n) hn1] at hf ⊢
  dsimp only at hf ⊢
  have h8 := h0.2.2
  refine ⟨fun p hp hc => ?_, ?_⟩
  · obtain ⟨q, q1, q2, q3, q4⟩ := short_chain h0.2.1 hno p.length p (Nat.le_refl _) hp J I hJ hc
    have hJ0 : gx (srcX n J) J = 0 := by
      rcases hsrc.2 J hJ with ⟨_, h⟩ | ⟨h, _⟩
      · exact h
      · exact absurd rfl h
    have := (sweepN_chain h0.1 h0.2.1 hsrc.1 hsrc.lo hJ0 (n - 1) (by omega) q q1 (by omega) I q2).1
    rw [gx_eq] at this
    omega
  · have hr := sweepN_real (es := es) (S := fun v => v = J) (x := srcX n J) (by rw [hsrc.1]; exact h0.2.1) (hsrc.real es) (n - 1)
    rcases hr I (by rw [sweepN_len, hsrc.1]; exact hI) with h | ⟨u, p, hu, p1, p2, p3⟩
    · rw [gx_eq] at h; exact absurd h hf
    · subst hu
      exact ⟨p, p1, p2, by rw [← gx_eq]; exact p3⟩
/-- what Slack tells, by cases -/
theorem slack_cases {n i : Int} {l : List Bd} (hn : n ≤ 16) : ((slackF n l i).2 ≠ 0 ∧ (slackF n l i).1 = 0) ∨
    ∃ (N q : Nat) (d : Int), n = N ∧ i = q ∧ q < l.length ∧ 1 ≤ N ∧ checkF n l = 0 ∧ Valid N l ∧ Ok0 N (l.map edge) ∧ (∀ p, ¬ Neg (l.map edge) p) ∧ Dist (l.map edge) (l[q]!).J.toNat (l[q]!).I.toNat d ∧ slackF n l i = ((l[q]!).C + d, 0) ∧ 0 ≤ (l[q]!).C + d ∧ d ≤ 17592186044416 := by
  by_cases hc : checkF n l = 0
  · obtain ⟨hn1, _, _, hV⟩ := checkF_ok hc
    obtain ⟨N, rfl⟩ : ∃ N : Nat, n = N := ⟨n.toNat, by omega⟩
    rw [Int.toNat_natCast] at hV
    have h0 := hV.ok0 (n := N) (by omega)
    by_cases hi : i < 0 ∨ (l.length : Int) ≤ i
    · left
      have hF : slackF N l i = (0, 1) := by unfold slackF; rw [if_neg (by omega), if_pos hi]
      rw [hF]; simp
    · obtain ⟨q, rfl⟩ : ∃ q : Nat, i = q := ⟨i.toNat, by omega⟩
      have hq : q < l.length := by omega
      by_cases hr : (relaxF (l.map edge) (N + 1) (zeros_ N)).2 = false
      · left
        have hF : slackF N l q = (0, 16) := by unfold slackF; rw [if_neg (by omega), if_neg hi, Int.toNat_natCast, if_pos hr]
        rw [hF]; simp
      · have hno := (relax_iff h0 (Nat.le_succ N) (by omega)).1 (by simpa using hr)
        have hvb : 0 ≤ l[q]!.I ∧ l[q]!.I < N ∧ 0 ≤ l[q]!.J ∧ l[q]!.J < N := by
          rw [getElem!_pos l q hq]; have := hV _ (List.getElem_mem hq); omega
        by_cases hf : ((relaxF (l.map edge) (N + 1) (srcX N (l[q]!).J.toNat)).1)[(l[q]!).I.toNat]! = 1152921504606846976
        · left
          have hF : slackF N l q = (0, 6) := by unfold slackF; rw [if_neg (by omega), if_neg hi, Int.toNat_natCast, if_neg hr, Int.toNat_natCast, if_pos hf]
          rw [hF]; simp
        · right
          have hF : slackF N l q = ((l[q]!).C + ((relaxF (l.map edge) (N + 1) (srcX N (l[q]!).J.toNat)).1)[(l[q]!).I.toNat]!, 0) := by
            unfold slackF; rw [if_neg (by omega), if_neg hi, Int.toNat_natCast, if_neg hr, Int.toNat_natCast, if_neg hf]
          have hd := dist_of h0 (by omega) hno (J := (l[q]!).J.toNat) (I := (l[q]!).I.toNat) (by omega) (by omega) hf
          refine ⟨N, q, _, rfl, rfl, hq, by omega, hc, hV, h0, hno, hd, hF, ?_, ?_⟩
          · obtain ⟨p, p1, p2, p3⟩ := hd.ex
            have hne := hno (edge l[q]! :: p)
            have hin : edge l[q]! ∈ l.map edge := List.mem_map.2 ⟨l[q]!, by rw [getElem!_pos l q hq]; exact List.getElem_mem hq, rfl⟩
            apply Classical.byContradiction
            intro hlt
            refine hne ⟨by simp, In.cons.2 ⟨hin, p1⟩, ⟨(l[q]!).I.toNat, rfl, p2⟩, ?_⟩
            rw [Su_cons, p3]
            show (l[q]!).C + _ < 0
            omega
          · obtain ⟨p, p1, p2, p3⟩ := hd.ex
            obtain ⟨r, r1, r2, r3, r4⟩ := short_chain h0.2.1 hno p.length p (Nat.le_refl _) p1 _ _ (show (l[q]!).J.toNat < N by omega) p2
            have h1 := hd.le r r1 r2
            have h2 := (Su_small h0.1 r1).2
            have : (r.length : Int) ≤ 15 := by omega
            omega
  · left
    have hF : slackF n l i = (0, checkF n l) := by unfold slackF; rw [if_pos hc]
    rw [hF]; exact ⟨hc, rfl⟩
end Go.Gh
