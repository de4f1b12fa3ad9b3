/-
  retime, walked: the events of a document in another rate.
-/
import Derived.Test.YtjjcgaompnjbdaaDoorTrWD
namespace Go.Gh
set_option linter.unusedSimpArgs false
set_option linter.unusedVariables false
set_option maxHeartbeats 4000000
open Go.RowKit
set_option maxRecDepth 4000

theorem evs_setId : ∀ (l : List Ev) (k : Nat) (n : Int), k < l.length → (l.flatMap evC).set (k * 7) (.int .i64 n) = (l.set k { l[k]! with id := n }).flatMap evC
  | [], k, n, h => by simp at h
  | y :: l, 0, n, _ => rfl
  | y :: l, k + 1, n, h => by
    have ih := evs_setId l k n (by simpa using h)
    have e : (k + 1) * 7 = (evC y).length + k * 7 := by rw [evC_len]; omega
    rw [List.flatMap_cons, e, List.set_append, if_neg (by omega), Nat.add_sub_cancel_left, ih, List.set_cons_succ, List.flatMap_cons, List.getElem!_cons_succ]
theorem evs_setSp : ∀ (l : List Ev) (k : Nat) (i o : Int), k < l.length → (l.flatMap evC).take (k * 7 + 1) ++ [.int .i64 i, .int .i64 o] ++ (l.flatMap evC).drop (k * 7 + 1 + 2) = (l.set k { l[k]! with i := i, o := o }).flatMap evC
  | [], k, i, o, h => by simp at h
  | y :: l, 0, i, o, _ => rfl
  | y :: l, k + 1, i, o, h => by
    have ih := evs_setSp l k i o (by simpa using h)
    have e : (k + 1) * 7 + 1 = (evC y).length + (k * 7 + 1) := by rw [evC_len]; omega
    rw [List.flatMap_cons, e, List.take_length_add_append, Nat.add_assoc, List.drop_length_add_append, List.set_cons_succ, List.flatMap_cons, List.getElem!_cons_succ, ← ih]
    simp only [List.append_assoc]
theorem evs_gsetn {l : List Ev} {k : Nat} {i o : Int} (h : k < l.length) : gsetn (l.flatMap evC) (k * 7 + 1) 2 (s2 i o) = some ((l.set k { l[k]! with i := i, o := o }).flatMap evC) := by
  have hl := rows_len evC_len l
  have := gsetn_ok (cs := l.flatMap evC) (o := k * 7 + 1) (n := 2) (vs := #[.int .i64 i, .int .i64 o]) (by omega) rfl (by simp [flatV])
  rw [← evs_setSp l k i o h]
  exact this
/-- an event that is turned -/
def evTurn (e : Ev) (id i o : Int) : Ev := { e with id := id, i := i, o := o }
theorem evs_both {l : List Ev} {k : Nat} {n i o : Int} (h : k < l.length) : ((l.set k { l[k]! with id := n }).set k { (l.set k { l[k]! with id := n })[k]! with i := i, o := o }) = l.set k (evTurn l[k]! n i o) := by
  have : (l.set k { l[k]! with id := n })[k]! = { l[k]! with id := n } := by
    rw [getElem!_pos _ _ (by rw [List.length_set]; exact h)]; simp
  rw [this, List.set_set]; rfl
theorem set_bang {l : List Ev} {k : Nat} {x : Ev} (h : k < l.length) (i : Nat) : (l.set k x)[i]! = if i = k then x else l[i]! := by
  by_cases hi : i = k
  · subst hi
    rw [if_pos rfl, getElem!_pos _ _ (by rw [List.length_set]; exact h)]; simp
  · rw [if_neg hi]
    by_cases h2 : i < l.length
    · rw [getElem!_pos _ _ (by rw [List.length_set]; exact h2), getElem!_pos l i h2, List.getElem_set_ne (by omega)]
    · rw [getElem!_neg _ _ (by rw [List.length_set]; exact h2), getElem!_neg l i h2]
/-- the first j events are turned -/
structure Turned (d : Dc) (to : Int) (E : List Ev) (D : List (Int × Int × Int)) (L : List (Int × Int)) (j : Nat) : Prop where
  len : E.length = d.E.length
  dl : D.length = j
  new : ∀ i, i < j → EvTo d.rt to i d.E[i]! E[i]! ∧ D[i]! = ((i : Int) + 1, E[i]!.i * tk to - d.E[i]!.i * tk d.rt, E[i]!.o * tk to - d.E[i]!.o * tk d.rt) ∧ dfind d.E[i]!.id L = some ((i : Int) + 1)
  old : ∀ i, j ≤ i → i < d.E.length → E[i]! = evWith d.E[i]! E[i]!.v E[i]!.L ∧ E[i]!.L.map (·.2) = d.E[i]!.L.map (·.2)
theorem Turned.next {d : Dc} {to : Int} {E : List Ev} {D : List (Int × Int × Int)} {L : List (Int × Int)} {j : Nat} (h : Turned d to E D L j) (hj : j < d.E.length) {i o : Int} (hsp : SpOk d.rt to d.E[j]!.i d.E[j]!.o i o) (hid : ∀ k, k < j → d.E[k]!.id ≠ d.E[j]!.id) :
    Turned d to (E.set j (evTurn E[j]! (j + 1) i o)) (D ++ [((j : Int) + 1, i * tk to - d.E[j]!.i * tk d.rt, o * tk to - d.E[j]!.o * tk d.rt)]) (dset d.E[j]!.id (j + 1) L) (j + 1) := by
  have hE : j < E.length := by rw [h.len]; exact hj
  obtain ⟨g1, g2⟩ := h.old j (Nat.le_refl _) hj
  refine ⟨by rw [List.length_set]; exact h.len, by rw [List.length_append, h.dl]; rfl, fun k hk => ?_, fun k hk hk2 => ?_⟩
  · by_cases e : k = j
    · subst e
      rw [set_bang hE, if_pos rfl]
      refine ⟨⟨rfl, hsp, ?_, ?_, ?_, ?_⟩, ?_, by rw [dfind_set, if_pos rfl]⟩
      · show E[k]!.rg = _; rw [g1]; rfl
      · show E[k]!.kd = _; rw [g1]; rfl
      · show E[k]!.sp = _; rw [g1]; rfl
      · exact g2
      · rw [getElem!_pos _ _ (by rw [List.length_append, h.dl]; simp), List.getElem_append_right (by rw [h.dl]; exact Nat.le_refl _)]
        simp [h.dl, evTurn]
    · obtain ⟨a1, a2, a3⟩ := h.new k (by omega)
      rw [set_bang hE, if_neg e]
      refine ⟨a1, ?_, ?_⟩
      · rw [← a2, getElem!_pos _ _ (by rw [List.length_append, h.dl]; simp; omega), getElem!_pos D k (by rw [h.dl]; omega), List.getElem_append_left]
      · rw [dfind_set, if_neg (hid k (by omega))]; exact a3
  · rw [set_bang hE, if_neg (by omega)]; exact h.old k (by omega) hk2
theorem ev_part {E : List Ev} {k : Nat} (h : k < E.length) : ((E.flatMap evC).drop (k * 7 + 1)).take 2 = [.int .i64 E[k]!.i, .int .i64 E[k]!.o] := by
  have := rows_part (f := evC) evC_len E k h
  rw [← List.drop_drop]
  have h2 : (((E.flatMap evC).drop (k * 7)).drop 1).take 2 = ((((E.flatMap evC).drop (k * 7)).take 7).drop 1).take 2 := by
    rw [List.drop_take, List.take_take]; rfl
  rw [h2, this]; rfl
theorem EvO.at7 {H0 H : GHeap} {v : Value} {E : List Ev} (h : EvO H0 H v E) {b gc k : Nat} (e : v = .slice (some ⟨b, 0, none⟩) E.length gc) (hk : k < E.length) : H.rdn b (k * 7 + 1) 2 = some (s2 E[k]!.i E[k]!.o) ∧ H.rd b (k * 7) = some (.int .i64 E[k]!.id) ∧ H.rd b (k * 7 + 1) = some (.int .i64 E[k]!.i) ∧ H.rd b (k * 7 + 2) = some (.int .i64 E[k]!.o) := by
  have hl := rows_len evC_len E
  have hrd := h.own.rd
  have hb : blk v = b := by rw [e]; rfl
  have ho : ofs v = 0 := by rw [e]; rfl
  refine ⟨?_, ?_, ?_, ?_⟩
  · have := hrd.rdn (by decide) (c := k * 7 + 1) (m := 2) (by decide) (by omega)
    rw [hb, ho, Nat.zero_add, ev_part hk] at this
    exact this
  · have := GRd.row (f := evC) hrd evC_len hk (c := 0) (by decide)
    rw [hb, ho, Nat.zero_add] at this
    exact this
  · have := GRd.row (f := evC) hrd evC_len hk (c := 1) (by decide)
    rw [hb, ho, Nat.zero_add] at this
    exact this
  · have := GRd.row (f := evC) hrd evC_len hk (c := 2) (by decide)
    rw [hb, ho, Nat.zero_add] at this
    exact this
theorem drC_sp (p : Int × Int × Int) : drC p = spC p.1 p.2.1 p.2.2 := rfl
/-! ### operations of an open region that come behind (as in journal's texts) -/
section
variable {call : GCall} {fr : Fr} {H : GHeap} {ks : List Kt} {R : Fr → GHeap → Prop} {hid : List Nat} {r : List (Bool × GOper)} {K : Fr → GHeap → Prop} {op : GOp} {d : Nat}
theorem Gp_0 (h : ∀ K' : Value → GHeap → Prop, (∀ v H', Gp call hid r K fr H' → K' v H') → G1 (gdo call fr H op) K') : Gp call hid ((false, ⟨none, none, op⟩) :: r) K fr H := by
  have h := (h _ fun _ _ h => h).ok
  cases hr : gdo call fr H op with
  | none => rw [hr] at h; exact h.elim
  | some x =>
    rw [hr] at h
    obtain ⟨f2, H2, h1, h2⟩ := h.ok
    refine ⟨f2, H2, ?_, h2⟩
    simp only [gpost, gwants_none]
    rw [if_neg (by simp), gdoE_yes hr (fun e => by cases e)]
    exact h1
theorem Gp_0t (ha : aims fr hid op = true) (h : ∀ K' : Value → GHeap → Prop, (∀ v H', Gp call hid r K fr H' → K' v H') → G1 (gdo call fr H op) K') (hc : isCall op = false := by rfl) : Gp call hid ((true, ⟨none, none, op⟩) :: r) K fr H := by
  have h := (h _ fun _ _ h => h).ok
  cases hr : gdo call fr H op with
  | none => rw [hr] at h; exact h.elim
  | some x =>
    rw [hr] at h
    obtain ⟨f2, H2, h1, h2⟩ := h.ok
    refine ⟨f2, H2, ?_, h2⟩
    simp only [gpost, gwants_none]
    rw [if_neg (by rw [ha]; simp), gdoE_yes hr (fun _ e => by rw [hc] at e; cases e)]
    exact h1
end
instance {call : GCall} {fr : Fr} {H : GHeap} {hid : List Nat} {r : List (Bool × GOper)} {K : Fr → GHeap → Prop} {op : GOp} : Ox (Gp call hid ((false, ⟨none, none, op⟩) :: r) K fr H) (∀ K' : Value → GHeap → Prop, (∀ v H', Gp call hid r K fr H' → K' v H') → G1 (gdo call fr H op) K') := ⟨fun h => Gp_0 h⟩
/-! ### comments -/
theorem RtS.put0 {H0 H : GHeap} {c m i : Nat} {d x : Dc} {L : List (Int × Int)} {cs cs' : List Value} (h : RtS H0 H c m d x L) (hm : H.mine i = some (cs, 0)) (h0 : H0.len + 2 ≤ i) (hc : i ≠ c) : RtS H0 (H.put i (.cells cs' 0 true)) c m d x L := by
  have hl := mine_lt h.same.wf hm
  have nm : i ≠ m := fun e => by subst e; exact dct_mine h.am hm
  exact ⟨h.same.put (by omega) hl _, (mine_put_ne (by omega)).trans h.a0, (mine_put_ne (by omega)).trans h.a1, (mine_put_ne hc).trans h.ac, h.hc, (dct_put_ne nm).trans h.am, h.hm, h.lm, h.rg.putU hm (by omega) (by decide), ⟨h.ev.own.putU hm (by omega) (by decide), fun e he => (h.ev.rows e he).putU hm (by omega) (by decide) (by decide)⟩, h.dis⟩
theorem look_val {H : GHeap} {r : Nat} {a : Int} {L : List (Int × Int)} (h : H.dct r = some (dic L)) : glook (.int .i64 0) false H (.map (some r)) (.int .i64 a) = some (.int .i64 ((dfind a L).getD 0)) := by
  rw [glook_dic h]
  cases dfind a L <;> rfl
theorem fill_cm {c : Cm} : fillL (zeros [.int .i64 0, .int .i64 0, .int .i64 0, .int .i64 0, .string ⟨#[]⟩, .string ⟨#[]⟩, .bool false, .bool false] 1) [(0, 8, cmV c)] = some (cmC c) := by
  have h := cmC_flat c
  have hl := cmC_len c
  simp [fillL, cm_cells, zeros, h, hl]
theorem OS.butU {s u n u' : Nat} {H0 H H' H2 : GHeap} {v w : Value} {n' : Nat} {xs ys : List Value} (h : OS s u H0 H v n xs) (k : OS u' u' H2 H w n' ys) (hu : u ≠ u') (h2 : H0.len ≤ H2.len) (hb : But (fun j => j ∈ idOf w) H H') : OS s u H0 H' v n xs :=
  h.but hb (fun j hj ha => by have := (k.ids ha).1; omega) (h.unit_ne k hu)
end Go.Gh

