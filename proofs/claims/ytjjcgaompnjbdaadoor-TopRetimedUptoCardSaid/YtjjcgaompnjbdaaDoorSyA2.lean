/-
  style: arguments that are rows; calls where the order is open.
-/
import Derived.Test.YtjjcgaompnjbdaaDoorSyN3
namespace Go.Gh
set_option linter.unusedSimpArgs false
set_option linter.unusedVariables false
set_option maxHeartbeats 4000000
open Go.RowKit
set_option maxRecDepth 4000

theorem OS.down {s u n : Nat} {H H' : GHeap} {v : Value} {xs : List Value} (hw : H.wf) (h : OS s u H.up H' v n xs) : OS s u H (H'.down H.lim) v n xs := by
  refine ⟨Same.down hw h.same, ⟨h.own.len, h.own.at_.imp id fun ⟨i, gc, e, hg, hm⟩ => ⟨i, gc, e, hg, ?_⟩⟩, h.young⟩
  refine mine_down hm ?_
  have h1 := h.same.lim
  have h2 : H.up.lim = H.len := rfl
  have := hw.1
  omega
theorem OR.down {H H' : GHeap} {v : Value} {l : List SR} (hw : H.wf) (h : OR H.up H' v l) : OR H (H'.down H.lim) v l := OS.down hw h
theorem RR.up {H : GHeap} {v : Value} {l : List SR} (h : RR H v l) : RR H.up v l := ⟨h.rd, h.sl⟩
theorem TR.up {H : GHeap} {v : Value} {l : List VR'} (h : TR H v l) : TR H.up v l := ⟨⟨h.rd.rd, h.rd.sl⟩, fun x hx => (h.rows x hx).up⟩
/-- an argument that is a row -/
structure ArgR (H : GHeap) (a : Value) (A : List SR) : Prop where
  rr : RR H a A
  len : A.length ≤ 1048576
  each : ∀ x ∈ A, x.t.length ≤ 1048576 ∧ x.y.length ≤ 1048576
theorem tot_bound {B : Nat} : ∀ {l : List SR}, (∀ x ∈ l, x.t.length ≤ B) → tot l ≤ l.length * B
  | [], _ => by simp [tot]
  | x :: l, h => by
    have h1 := h x (by simp)
    have h2 := tot_bound (l := l) fun y hy => h y (by simp [hy])
    rw [tot_cons, List.length_cons, Nat.add_mul]
    omega
theorem ArgR.tot {H : GHeap} {a : Value} {A : List SR} (h : ArgR H a A) : Go.Gh.tot A ≤ 1099511627776 := by
  have h1 := tot_bound (l := A) fun x hx => (h.each x hx).1
  have h2 := Nat.mul_le_mul_right 1048576 h.len
  omega
theorem ArgR.later {H H' : GHeap} {a : Value} {A : List SR} (h : ArgR H a A) (hw : H.wf) (hs : Same H H') : ArgR H' a A := ⟨h.rr.later hw hs, h.len, h.each⟩
theorem argR_of {H : GHeap} {gv : Value} (h : RdAQ (fun m => m ≤ 1048576) H (.st [.sl runShp]) gv) : ∃ a A, gv = rowV a ∧ ArgR H a A := by
  simp only [RdAQ, RdSsQ] at h
  obtain ⟨gs, rfl, a', b', rfl, h1, rfl⟩ := h
  simp only [RdSQ] at h1
  obtain ⟨v, rows, rfl, h2⟩ := h1
  have h3 : RdAQ (fun m => m ≤ 1048576) H (.sl runShp) v := by
    simp only [RdAQ, RdSQ]
    exact ⟨v, rows, rfl, h2⟩
  obtain ⟨l, k1, k2, k3⟩ := h3.slQ_ (f := runC) fun r hr => run_of hr
  refine ⟨v, l, rfl, k1, k2.2.2, fun x hx => ?_⟩
  have h4 := k3 x hx
  simp only [runShp, RdSQ, RdSsQ, runC] at h4
  obtain ⟨_, _, e1, ⟨s, rfl, _, q1⟩, _, _, rfl, ⟨_, _, rfl, ⟨c, rfl, _⟩, _, _, rfl, ⟨i, rfl⟩, _, _, rfl, ⟨u, rfl⟩, rfl⟩, _, _, rfl, ⟨y, rfl, _, q2⟩, rfl⟩ := h4
  simp only [List.cons_append, List.nil_append, List.cons.injEq, Value.string.injEq, and_true] at e1
  obtain ⟨e1, _, _, _, e2⟩ := e1
  rw [← e1, strB_size] at q1
  rw [← e2, strB_size] at q2
  exact ⟨q1, q2⟩
theorem drop_bangR {l : List SR} {n : Nat} (h : n < l.length) : l.drop n = l[n]! :: l.drop (n + 1) := by rw [List.drop_eq_getElem_cons h, getElem!_pos l n h]
theorem mem_tot {l : List SR} {x : SR} (h : x ∈ l) : x.t.length ≤ tot l := by
  induction l with
  | nil => cases h
  | cons y l ih =>
    rw [tot_cons]
    rcases List.mem_cons.1 h with rfl | h
    · omega
    · have := ih h; omega
theorem TR.mk2 {H : GHeap} (hw : H.wf) {a b : Value} {A B : List SR} (ha : RR H a A) (hb : RR H b B) : TR (H.add (some (.cells [a, b] 1 true))) (.slice (some ⟨H.len, 0, none⟩) 2 3) [(a, A), (b, B)] := by
  have hS : Same H (H.add (some (.cells [a, b] 1 true))) := (Same.refl hw).add _
  refine ⟨OwnG.arg hS.wf ⟨rfl, .inr ⟨H.len, 3, rfl, .inr rfl, mine_add_eq rfl hw.1⟩⟩ (.inr rfl), fun x hx => ?_⟩
  simp only [List.mem_cons, List.not_mem_nil, or_false] at hx
  rcases hx with rfl | rfl
  · exact ha.later hw hS
  · exact hb.later hw hS
theorem TR.mk1 {H : GHeap} (hw : H.wf) {a : Value} {A : List SR} (ha : RR H a A) : TR (H.add (some (.cells [a] 1 true))) (.slice (some ⟨H.len, 0, none⟩) 1 2) [(a, A)] := by
  have hS : Same H (H.add (some (.cells [a] 1 true))) := (Same.refl hw).add _
  refine ⟨OwnG.arg hS.wf ⟨rfl, .inr ⟨H.len, 2, rfl, .inr rfl, mine_add_eq rfl hw.1⟩⟩ (.inr rfl), fun x hx => ?_⟩
  simp only [List.mem_cons, List.not_mem_nil, or_false] at hx
  subst hx
  exact ha.later hw hS
end Go.Gh
