/-
 The ghost machine is sound.
-/
import Derived.Test.YtfldcmeecpgpeaaGreatDoorK2
import Derived.LoopN
import Derived.ScopeJumps
import Derived.Laws.Twins
import Derived.Conc.MuLone
namespace Go.Gh
set_option linter.unusedVariables false
set_option linter.unusedSimpArgs false
open Go.RowKit
section
variable {P : Program}
structure Trace (run : Nat → Fr → GHeap → GOp → Option (Value × GHeap)) (l : List GOper) (F : Nat → Fr) (K : Nat → GHeap) (V : Nat → Value) : Prop where
 step : ∀ p o, l[p]? = some o → F (p + 1) = gput (F p) o.dst (V p) ∧ ((gwants (F p) o.guard = some true ∧ run p (F p) (K p) o.op = some (V p, K (p + 1))) ∨ (gwants (F p) o.guard = some false ∧ V p = undef ∧ K (p + 1) = K p))
theorem Trace.cons {run : Nat → Fr → GHeap → GOp → Option (Value × GHeap)} {o : GOper} {l : List GOper} {F : Nat → Fr} {K : Nat → GHeap} {V : Nat → Value} {fr : Fr} {H : GHeap} {v : Value} (h : Trace (fun p => run (p + 1)) l F K V)
  (h0 : F 0 = gput fr o.dst v) (h1 : (gwants fr o.guard = some true ∧ run 0 fr H o.op = some (v, K 0)) ∨ (gwants fr o.guard = some false ∧ v = undef ∧ K 0 = H)) :
  ∃ F' K' V', F' 0 = fr ∧ K' 0 = H ∧ F' (l.length + 1) = F l.length ∧ K' (l.length + 1) = K l.length ∧ Trace run (o :: l) F' K' V' := by
 refine ⟨fun p => match p with | 0 => fr | p + 1 => F p, fun p => match p with | 0 => H | p + 1 => K p, fun p => match p with | 0 => v | p + 1 => V p, rfl, rfl, rfl, rfl, ⟨fun p o' ho => ?_⟩⟩
 cases p with
 | zero => simp at ho; subst ho; exact ⟨h0, h1⟩
 | succ p => exact h.step p o' (by simpa using ho)
theorem gsteps_trace {run : Fr → GHeap → GOp → Option (Value × GHeap)} : ∀ (l : List GOper) (fr fr' : Fr) (H H' : GHeap), gsteps run l fr H = some (fr', H') → ∃ F K V, F 0 = fr ∧ K 0 = H ∧ F l.length = fr' ∧ K l.length = H' ∧ Trace (fun _ => run) l F K V
 | [], fr, fr', H, H', h => by
  cases h
  exact ⟨fun _ => fr, fun _ => H, fun _ => undef, rfl, rfl, rfl, rfl, ⟨fun p o ho => by simp at ho⟩⟩
 | o :: l, fr, fr', H, H', h => by
  simp only [gsteps] at h
  split at h
  ·rename_i hwt
   split at h
   ·rename_i v H1 h1
    obtain ⟨F, K, V, e1, e2, e3, e4, hT⟩ := gsteps_trace l _ _ _ _ h
    obtain ⟨F', K', V', g1, g2, g3, g4, hT'⟩ := Trace.cons (run := fun _ => run) (o := o) (fr := fr) (H := H) (v := v) hT e1 (.inl ⟨hwt, by rw [e2]; exact h1⟩)
    exact ⟨F', K', V', g1, g2, g3.trans e3, g4.trans e4, hT'⟩
   ·cases h
  ·rename_i hwt
   obtain ⟨F, K, V, e1, e2, e3, e4, hT⟩ := gsteps_trace l _ _ _ _ h
   obtain ⟨F', K', V', g1, g2, g3, g4, hT'⟩ := Trace.cons (run := fun _ => run) (o := o) (fr := fr) (H := H) (v := undef) hT e1 (.inr ⟨hwt, rfl, e2⟩)
   exact ⟨F', K', V', g1, g2, g3.trans e3, g4.trans e4, hT'⟩
  ·cases h
noncomputable def runPost (call : GCall) (hid : List Nat) (es : List Bool) (p : Nat) (fr : Fr) (H : GHeap) (op : GOp) : Option (Value × GHeap) :=
 if (es.getD p false) && !aims fr hid op then none else gdoE call hid (es.getD p false) fr H op
theorem gpost_trace {call : GCall} {hid : List Nat} : ∀ (l : List (Bool × GOper)) (fr fr' : Fr) (H H' : GHeap), gpost call hid l fr H = some (fr', H') →
  ∃ F K V, F 0 = fr ∧ K 0 = H ∧ F l.length = fr' ∧ K l.length = H' ∧ Trace (runPost call hid (l.map (·.1))) (l.map (·.2)) F K V
 | [], fr, fr', H, H', h => by
  cases h
  exact ⟨fun _ => fr, fun _ => H, fun _ => undef, rfl, rfl, rfl, rfl, ⟨fun p o ho => by simp at ho⟩⟩
 | (e, o) :: l, fr, fr', H, H', h => by
  have hrun : (fun p => runPost call hid ((e :: l.map (·.1))) (p + 1)) = runPost call hid (l.map (·.1)) := by
   funext p fr H op; simp [runPost]
  simp only [gpost] at h
  split at h
  ·rename_i hwt
   split at h
   ·cases h
   ·rename_i hea
    split at h
    ·rename_i v H1 h1
     obtain ⟨F, K, V, e1, e2, e3, e4, hT⟩ := gpost_trace l _ _ _ _ h
     rw [← hrun] at hT
     obtain ⟨F', K', V', g1, g2, g3, g4, hT'⟩ := Trace.cons (o := o) (fr := fr) (H := H) (v := v) hT e1 (.inl ⟨hwt, by rw [e2]; simp only [runPost]; rw [if_neg (by simpa using hea)]; exact h1⟩)
     exact ⟨F', K', V', g1, g2, by simpa using g3.trans (by simpa using e3), by simpa using g4.trans (by simpa using e4), hT'⟩
    ·cases h
  ·rename_i hwt
   obtain ⟨F, K, V, e1, e2, e3, e4, hT⟩ := gpost_trace l _ _ _ _ h
   rw [← hrun] at hT
   obtain ⟨F', K', V', g1, g2, g3, g4, hT'⟩ := Trace.cons (o := o) (fr := fr) (H := H) (v := undef) hT e1 (.inr ⟨hwt, rfl, e2⟩)
   exact ⟨F', K', V', g1, g2, by simpa using g3.trans (by simpa using e3), by simpa using g4.trans (by simpa using e4), hT'⟩
  ·cases h
theorem ghide_obj : ∀ (l : List Nat) (H : GHeap) (i : Nat), (ghide H l).obj i = (if i ∈ l then (H.obj i).map (fun o => .dead o.unit) else H.obj i) ∧ (ghide H l).len = H.len ∧ (ghide H l).lim = H.lim
 | [], H, i => by simp [ghide]
 | j :: l, H, i => by
  simp only [ghide]
  split
  ·rename_i u hu
   obtain ⟨h1, h2, h3⟩ := ghide_obj l (H.put j (.dead u)) i
   refine ⟨?_, h2, h3⟩
   rw [h1, obj_put]
   unfold GHeap.unit at hu
   by_cases hji : j = i
   ·subst hji
    cases ho : H.obj j with
    | none => rw [ho] at hu; cases hu
    | some o => rw [ho] at hu; cases hu; simp [GObj.unit]
   ·rw [if_neg hji]
    by_cases hil : i ∈ l
    ·simp [hil]
    ·have : ¬ i ∈ j :: l := by simp; exact ⟨fun e => hji e.symm, hil⟩
     rw [if_neg hil, if_neg this]
  ·rename_i hu
   obtain ⟨h1, h2, h3⟩ := ghide_obj l H i
   refine ⟨?_, h2, h3⟩
   rw [h1]
   by_cases hji : j = i
   ·subst hji
    unfold GHeap.unit at hu
    simp only [Option.map_eq_none_iff] at hu
    simp [hu]
   ·by_cases hil : i ∈ l
    ·simp [hil]
    ·have : ¬ i ∈ j :: l := by simp; exact ⟨fun e => hji e.symm, hil⟩
     rw [if_neg hil, if_neg this]
theorem gback_obj : ∀ (l : List Nat) (H H' : GHeap) (i : Nat), (gback H H' l).obj i = (if i ∈ l then (H.obj i).orElse (fun _ => H'.obj i) else H'.obj i) ∧ (gback H H' l).len = H'.len ∧ (gback H H' l).lim = H'.lim
 | [], H, H', i => by simp [gback]
 | j :: l, H, H', i => by
  simp only [gback]
  split
  ·rename_i o ho
   obtain ⟨h1, h2, h3⟩ := gback_obj l H (H'.put j o) i
   refine ⟨?_, h2, h3⟩
   rw [h1, obj_put]
   by_cases hji : j = i
   ·subst hji; simp [ho]
   ·rw [if_neg hji]
    by_cases hil : i ∈ l
    ·simp [hil]
    ·have : ¬ i ∈ j :: l := by simp; exact ⟨fun e => hji e.symm, hil⟩
     rw [if_neg hil, if_neg this]
  ·rename_i ho
   obtain ⟨h1, h2, h3⟩ := gback_obj l H H' i
   refine ⟨?_, h2, h3⟩
   rw [h1]
   by_cases hji : j = i
   ·subst hji; simp [ho]
   ·by_cases hil : i ∈ l
    ·simp [hil]
    ·have : ¬ i ∈ j :: l := by simp; exact ⟨fun e => hji e.symm, hil⟩
     rw [if_neg hil, if_neg this]
theorem ghide_wf {H : GHeap} (hw : H.wf) (l : List Nat) : (ghide H l).wf := by
 refine ⟨by rw [(ghide_obj l H 0).2.1, (ghide_obj l H 0).2.2]; exact hw.1, fun i => ?_⟩
 rw [(ghide_obj l H i).1, (ghide_obj l H 0).2.1, ← hw.2 i]
 split <;> simp
theorem gback_wf {H H' : GHeap} (hw : H'.wf) (l : List Nat) (hl : ∀ i ∈ l, i < H'.len) : (gback H H' l).wf := by
 refine ⟨by rw [(gback_obj l H H' 0).2.1, (gback_obj l H H' 0).2.2]; exact hw.1, fun i => ?_⟩
 rw [(gback_obj l H H' i).1, (gback_obj l H H' 0).2.1, ← hw.2 i]
 split
 ·rename_i hi
  have := (hw.2 i).2 (hl i hi)
  cases H.obj i <;> simp [this]
 ·rfl
structure Same (H H' : GHeap) : Prop where
 lim : H'.lim = H.lim
 len : H.len ≤ H'.len
 obj : ∀ i, i < H.len → H'.obj i = H.obj i
 wf : H'.wf
theorem Same.refl {H : GHeap} (hw : H.wf) : Same H H := ⟨rfl, Nat.le_refl _, fun _ _ => rfl, hw⟩
theorem Same.trans {A B C : GHeap} (h : Same A B) (k : Same B C) : Same A C := ⟨k.lim.trans h.lim, Nat.le_trans h.len k.len, fun i hi => (k.obj i (Nat.lt_of_lt_of_le hi h.len)).trans (h.obj i hi), k.wf⟩
theorem gdoM_same {call : GCall} (hcall : CallOk P call) {fr : Fr} {H H' : GHeap} (hw : H.wf) {g : GOp} {v : Value} (h : gdoM call fr H g = some (v, H')) : Same H H' := by
 unfold gdoM at h
 split at h
 ·simp only [Option.bind_eq_some_iff, Option.map_eq_some_iff, Prod.mk.injEq] at h
  obtain ⟨⟨f, args⟩, _, ⟨v', H1⟩, h1, rfl, rfl⟩ := h
  have hw0 : (⟨H.t, H.len, H.len⟩ : GHeap).wf := ⟨Nat.le_refl _, hw.2⟩
  have := (hcall _ _ _ _ _ h1).1 hw0
  refine ⟨rfl, this.len, fun i hi => this.low i hi, ⟨Nat.le_trans hw.1 this.len, (this.wf hw0).2⟩⟩
 ·simp only [Option.map_eq_some_iff, Prod.mk.injEq] at h
  obtain ⟨⟨v', new⟩, _, rfl, rfl⟩ := h
  have := Fwd.add hw new
  refine ⟨this.lim, this.len, fun i hi => ?_, this.wf hw⟩
  cases new with
  | none => rfl
  | some o => rw [obj_add, if_neg (by omega)]
theorem Same.unit {H H' : GHeap} (h : Same H H') (hw : H.wf) {i u : Nat} (e : H.unit i = some u) : H'.unit i = some u := by
 have hi : i < H.len := by
  rw [← hw.2 i]
  unfold GHeap.unit at e
  cases ho : H.obj i with
  | none => rw [ho] at e; cases e
  | some o => rfl
 unfold GHeap.unit at e ⊢
 rw [h.obj i hi]; exact e
theorem nodupB_inj : ∀ (l : List Nat), nodupB l = true → ∀ (p q j : Nat), l[p]? = some j → l[q]? = some j → p = q
 | [], _, p, q, j, h, _ => by simp at h
 | x :: r, hn, p, q, j, h1, h2 => by
  simp only [nodupB, Bool.and_eq_true, Bool.not_eq_true', List.contains_eq_mem, decide_eq_false_iff_not] at hn
  cases p with
  | zero =>
   cases q with
   | zero => rfl
   | succ q => simp at h1 h2; subst h1; exact absurd (List.mem_of_getElem? h2) hn.1
  | succ p =>
   cases q with
   | zero => simp at h1 h2; subst h2; exact absurd (List.mem_of_getElem? h1) hn.1
   | succ q => simp at h1 h2; rw [nodupB_inj r hn.2 p q j h1 h2]
theorem HR.sub {base lim : Nat} {ι : Inj} {K T : Tr GObj} {w : World} (h : HR P base lim ι K w) (hs : ∀ i o, T.get i = some o → K.get i = some o ∨ ∃ o1, K.get i = some o1 ∧ o = .dead o1.unit) : HR P base lim ι T w :=
 h.some_ (Inj.le.refl _) (fun _ _ e => e) (fun i l o _ e => hs i o e) (fun i l o e f hv => by
  rcases hs i o f with g | ⟨o1, g1, g2⟩
  ·exact h.obj i l o e g
  ·subst g2; simp [GObj.live] at hv) h.glob
theorem HR.shut' {base lim : Nat} {ι : Inj} {t : Tr GObj} {w : World} (h : HR P base lim ι t w) (lim' base' : Nat) (hb : base' ≤ w.heap.size) (hbb : base ≤ base') (hn : ∀ i, lim' ≤ i → t.get i = none) : HR P base' lim' ι t w := by
 refine ⟨hb, h.blk, fun i l o e f => ?_, fun a la oa b lb ob e f e' f' hab hl h1 h2 => ?_, h.glob, Nat.le_trans h.door.1 hbb, h.door.2⟩
 ·have hi : ¬ lim' ≤ i := fun hh => by rw [hn i hh] at f; cases f
  have := h.obj i l o e f
  cases o with
  | dead u => exact this
  | iter s pos => exact ⟨this.1, this.2.1, this.2.2.1, fun hh => absurd hh hi⟩
  | cells cs u own => exact ⟨this.1, this.2.1, fun _ hh => absurd hh hi⟩
 ·rw [hn a hl] at f; cases f
theorem HR.join {base lim base' lim' : Nat} {ι ι' : Inj} {K T : Tr GObj} {w w' : World} (h : HR P base lim ι K w) (k : HR P base' lim' ι' T w') (hl : Le w w') (hle : ι.le ι')
  (hnew : ∀ i l, ι' i = some l → ι i = some l ∨ (ι i = none ∧ lim' ≤ i ∧ w.heap.size ≤ l.block ∧ ∀ o, K.get i = some o → T.get i = some o)) : HR P base lim ι' K w' := by
 have hlow := h.low
 refine ⟨Nat.le_trans h.low hl.size, k.blk, fun i l o e f => ?_, fun a la oa b lb ob e f e' f' hab hlm h1 h2 => ?_, fun g hg => ?_, h.door.1, gT_keep h.door.2 fun b hb => hl.block b (by have := h.low; have := h.door.1; omega)⟩
 ·rcases hnew i l e with g | ⟨g1, g2, g3, g4⟩
  ·exact (h.obj i l o g f).keep hle (hl.block _ (h.blk i l g))
  ·have := k.obj i l o e (g4 o f)
   cases o with
   | dead u => exact this
   | iter s pos => exact ⟨this.1, this.2.1, this.2.2.1, fun _ => by omega⟩
   | cells cs u own =>
    refine ⟨this.1, this.2.1, fun ho _ => ?_⟩
    obtain ⟨q1, q2, q3⟩ := this.2.2 ho g2
    exact ⟨by omega, q2, q3⟩
 ·rcases hnew a la e with g | ⟨g1, g2, g3, g4⟩
  ·rcases hnew b lb e' with g' | ⟨g1', g2', g3', g4'⟩
   ·exact h.sep a la oa b lb ob g f g' f' hab hlm h1 h2
   ·have := h.blk a la g; omega
  ·rcases hnew b lb e' with g' | ⟨g1', g2', g3', g4'⟩
   ·have := h.blk b lb g'; omega
   ·exact k.sep a la oa b lb ob e (g4 oa f) e' (g4' ob f') hab g2 h1 h2
 ·obtain ⟨l, e, q⟩ := h.glob g hg
  exact ⟨l, hle _ _ e, q⟩
end
end Go.Gh
namespace Go.Gh
set_option linter.unusedVariables false
set_option linter.unusedSimpArgs false
open Go.RowKit
def GRel (P : Program) (ops : Array Oper) (o : Oper) (g : GOper) : Prop :=
 g.dst = o.dst ∧ (cGuard ops o.guard = some g.guard ∨ (g.guard = none ∧ g.op = .bad)) ∧ (opRel P o.op g.op ∨ g.op = .bad)
section
variable {P : Program}
theorem zipIdx_all {l : List Nat} {f : Nat × Nat → Bool} (h : l.zipIdx.all f = true) {p j : Nat} (hp : l[p]? = some j) : f (j, p) = true := by
 rw [List.all_eq_true] at h
 refine h (j, p) ?_
 rw [List.mem_zipIdx_iff_getElem?]
 exact hp
structure Plan (P : Program) (ops : Array Oper) (gs : List GOper) (pre post : List Nat) : Prop where
 nodup : ∀ p q j : Nat, (pre ++ post)[p]? = some j → (pre ++ post)[q]? = some j → p = q
 lt : ∀ p j : Nat, (pre ++ post)[p]? = some j → j < ops.size
 all : ∀ j : Nat, j < ops.size → ∃ p : Nat, (pre ++ post)[p]? = some j
 order : ∀ p j : Nat, (pre ++ post)[p]? = some j → ∀ i ∈ (befores ops).getD j [], ∃ q : Nat, q < p ∧ (pre ++ post)[q]? = some i
 chain : ∀ q j : Nat, post[q]? = some j → ∀ r i : Nat, r < q → post[r]? = some i → i ∈ (befores ops).getD j [] ∨ (pureG (planOk.opOf gs i) = true ∧ pureG (planOk.opOf gs j) = true)
 slot : ∀ j t : Nat, (ops[j]?).bind (·.dst) = some t → (∀ i, (ops[i]?).bind (·.dst) = some t → i = j) ∧ ∀ i, i < ops.size → i ≠ j → t ∈ planOk.reads (gs.getD i default) → i ∈ (befores ops).getD j [] ∨ j ∈ (befores ops).getD i []
theorem plan_of {ops : Array Oper} {gs : List GOper} {pre post : List Nat} (h : planOk ops (befores ops) gs pre post = true) : Plan P ops gs pre post := by
 simp only [planOk, Bool.and_eq_true] at h
 obtain ⟨⟨⟨⟨⟨⟨h1, h2⟩, h3⟩, h4⟩, h5⟩, h6⟩, h8⟩ := h
 refine ⟨nodupB_inj _ h1, fun p j hp => ?_, fun j hj => ?_, fun p j hp i hi => ?_, fun q j hq r i hr hri => ?_, fun j t hj => ?_⟩
 ·rw [List.all_eq_true] at h2
  simpa using h2 j (List.mem_of_getElem? hp)
 ·rw [List.all_eq_true] at h3
  have := h3 j (List.mem_range.2 hj)
  exact List.getElem?_of_mem (by simpa using this)
 ·have := zipIdx_all h4 hp
  simp only [List.all_eq_true] at this
  have := this i hi
  simp only [List.contains_iff_mem] at this
  obtain ⟨q, hq⟩ := List.getElem?_of_mem this
  rw [List.getElem?_take] at hq
  split at hq
  ·rename_i hqp; exact ⟨q, hqp, hq⟩
  ·cases hq
 ·have := zipIdx_all h5 hq
  simp only [List.all_eq_true] at this
  have := this i (List.mem_of_getElem? (by rw [List.getElem?_take, if_pos hr]; exact hri))
  simpa [bef] using this
 ·have hjl : j < ops.size := by
   rcases Nat.lt_or_ge j ops.size with hh | hh
   ·exact hh
   ·rw [Array.getElem?_eq_none hh] at hj; cases hj
  rw [List.all_eq_true] at h8
  have := h8 j (List.mem_range.2 hjl)
  rw [hj] at this
  simp only [Bool.and_eq_true, beq_iff_eq, List.all_eq_true, List.mem_range, Bool.or_eq_true, Bool.not_eq_true'] at this
  obtain ⟨g1, g2⟩ := this
  refine ⟨fun i hi => ?_, fun i hi hij ht => ?_⟩
  ·have him : i ∈ writers ops t := by
    unfold writers
    refine List.mem_filter.2 ⟨List.mem_range.2 ?_, by simpa using hi⟩
    rcases Nat.lt_or_ge i ops.size with hh | hh
    ·exact hh
    ·rw [Array.getElem?_eq_none hh] at hi; cases hi
   rw [g1] at him
   simpa using him
  ·rcases g2 i hi with ((e | e) | e) | e
   ·exact absurd e hij
   ·left; simpa [bef] using e
   ·right; simpa [bef] using e
   ·rw [Bool.eq_false_iff] at e
    exact absurd (by simpa using ht) e
variable {base : Nat} {ι : Inj} {H : GHeap} {w : World} {fr : Fr} {N : Nat} {ops : Array Oper} {gs : List GOper} {pre post : List Nat} {K1 K2 : Nat → GHeap} {F : Nat → Fr} {V : Nat → Value} {LN : Nat → Nat}
def Cut (gs : List GOper) (post : List Nat) (S : Nat → Prop) (m : Nat) : Prop := m ≤ post.length ∧ ∀ q j : Nat, post[q]? = some j → pureG (planOk.opOf gs j) = false → (S j ↔ q < m)
structure Inv (P : Program) (base : Nat) (ι : Inj) (H : GHeap) (w : World) (fr : Fr) (N : Nat) (ops : Array Oper) (gs : List GOper) (pre post : List Nat) (K2 : Nat → GHeap) (V : Nat → Value) (LN : Nat → Nat)
  (S : Nat → Prop) (a : Act) (w' : World) (m : Nat) (ι' : Inj) (fs : Fr) : Prop where
 le : ι.le ι'
 new : ∀ i l, ι' i = some l → ι i = some l ∨ (base ≤ l.block ∧ ∃ p j : Nat, (pre ++ post)[p]? = some j ∧ S j ∧ LN p ≤ i ∧ i < LN (p + 1))
 hr : HR P base H.lim ι' (K2 m).t w'
 bel : Below base w w'
 frame : FR ι' fs a
 sz : a.tmps.size = N
 put : ∀ t p j : Nat, (pre ++ post)[p]? = some j → (ops[j]?).bind (·.dst) = some t → S j → fs.get t = some (V p)
 old : ∀ t : Nat, (∀ j : Nat, (ops[j]?).bind (·.dst) = some t → ¬ S j) → fs.get t = fr.get t
 post : Cut gs post S m
def StepOk (P : Program) (base : Nat) (H : GHeap) (K2 : Nat → GHeap) (LN : Nat → Nat) (p m' : Nat) (v : Value) (ι' : Inj) (w' : World) (v' : Value) (w'' : World) : Prop :=
 ∃ ι'', ι'.le ι'' ∧ VR ι'' v v' ∧ HR P base H.lim ι'' (K2 m').t w'' ∧ Below base w' w'' ∧ ∀ i l, ι'' i = some l → ι' i = some l ∨ (base ≤ l.block ∧ LN p ≤ i ∧ i < LN (p + 1))
theorem Inv.step (hp : Plan P ops gs pre post) {S : Nat → Prop} {a : Act} {w' w'' : World} {m m' : Nat} {ι' : Inj} {fs : Fr} (h : Inv P base ι H w fr N ops gs pre post K2 V LN S a w' m ι' fs) {p j : Nat} {o : Oper} (hpj : (pre ++ post)[p]? = some j) (ho : ops[j]? = some o) (hS : ¬ S j)
  (hd : ∀ d, o.dst = some d → d < N) {v' : Value} (hs : StepOk P base H K2 LN p m' (V p) ι' w' v' w'') (hm : Cut gs post (fun i => S i ∨ i = j) m') :
  ∃ ι'' fs', Inv P base ι H w fr N ops gs pre post K2 V LN (fun i => S i ∨ i = j) (a.put o.dst v') w'' m' ι'' fs' := by
 obtain ⟨ι'', h1, h2, h3, h4, h5⟩ := hs
 refine ⟨ι'', gput fs o.dst (V p), h.le.trans h1, fun i l e => ?_, h3, h.bel.trans h4, (h.frame.mono h1).put h2 (fun d e => by rw [h.sz]; exact hd d e), by rw [put_size]; exact h.sz, fun t q i hq hi hSi => ?_, fun t ht => ?_, hm⟩
 ·rcases h5 i l e with g | ⟨g1, g2, g3⟩
  ·rcases h.new i l g with g | ⟨g1, q, i', g2, g3, g4⟩
   ·exact .inl g
   ·exact .inr ⟨g1, q, i', g2, .inl g3, g4⟩
  ·exact .inr ⟨g1, p, j, hpj, .inr rfl, g2, g3⟩
 ·by_cases hij : i = j
  ·subst hij
   obtain rfl := hp.nodup _ _ _ hq hpj
   rw [ho] at hi
   simp only [Option.bind_some] at hi
   rw [hi]
   simp [gput]
  ·have hSi' : S i := hSi.resolve_right hij
   have hne : o.dst ≠ some t := fun e => hij ((hp.slot j t (by rw [ho]; exact e)).1 i hi)
   have := h.put t q i hq hi hSi'
   cases hdo : o.dst with
   | none => exact this
   | some d =>
    have : d ≠ t := fun e => hne (by rw [hdo, e])
    simp only [gput, Tr.get_set_ne _ _ this]
    assumption
 ·have hne : o.dst ≠ some t := fun e => ht j (by rw [ho]; exact e) (.inr rfl)
  have := h.old t (fun i hi hSi => ht i hi (.inl hSi))
  cases hdo : o.dst with
  | none => exact this
  | some d =>
   have : d ≠ t := fun e => hne (by rw [hdo, e])
   simp only [gput, Tr.get_set_ne _ _ this]
   assumption
theorem Inv.agree (hp : Plan P ops gs pre post) {S : Nat → Prop} {a : Act} {w' : World} {m : Nat} {ι' : Inj} {fs : Fr} (h : Inv P base ι H w fr N ops gs pre post K2 V LN S a w' m ι' fs) (hF0 : F 0 = fr) (hF : ∀ p j o, (pre ++ post)[p]? = some j → ops[j]? = some o → F (p + 1) = gput (F p) o.dst (V p))
  (hclosed : ∀ j, S j → ∀ i ∈ (befores ops).getD j [], S i) {p j : Nat} (hpj : (pre ++ post)[p]? = some j) (hS : ¬ S j) (hdep : ∀ i ∈ (befores ops).getD j [], S i) : ∀ t ∈ planOk.reads (gs.getD j default), fs.get t = (F p).get t := by
 have hL : ∀ q, q < p → ∃ (i : Nat) (o : Oper), (pre ++ post)[q]? = some i ∧ ops[i]? = some o := fun q hq => by
  have hql : q < (pre ++ post).length := Nat.lt_trans hq (List.getElem?_eq_some_iff.1 hpj).1
  exact ⟨_, _, List.getElem?_eq_getElem hql, Array.getElem?_eq_getElem (hp.lt _ _ (List.getElem?_eq_getElem hql))⟩
 -- the ghost frame by slots
 have hold : ∀ n, n ≤ p → ∀ t, (∀ q i o, q < n → (pre ++ post)[q]? = some i → ops[i]? = some o → o.dst ≠ some t) → (F n).get t = fr.get t := by
  intro n
  induction n with
  | zero => intro _ t _; rw [hF0]
  | succ n ih =>
   intro hn t ht
   obtain ⟨i, o, h1, h2⟩ := hL n (by omega)
   rw [hF n i o h1 h2]
   have hne := ht n i o (by omega) h1 h2
   have := ih (by omega) t (fun q i o hq => ht q i o (by omega))
   cases hdo : o.dst with
   | none => exact this
   | some d =>
    have : d ≠ t := fun e => hne (by rw [hdo, e])
    simp only [gput, Tr.get_set_ne _ _ this]
    assumption
 have hput : ∀ n, n ≤ p → ∀ t q i o, q < n → (pre ++ post)[q]? = some i → ops[i]? = some o → o.dst = some t → (F n).get t = some (V q) := by
  intro n
  induction n with
  | zero => intro _ t q i o hq; omega
  | succ n ih =>
   intro hn t q i o hq h1 h2 h3
   obtain ⟨i', o', g1, g2⟩ := hL n (by omega)
   rw [hF n i' o' g1 g2]
   by_cases hqn : q = n
   ·subst hqn
    rw [h1] at g1; cases g1
    rw [h2] at g2; cases g2
    rw [h3]; simp [gput]
   ·have hne : o'.dst ≠ some t := fun e => by
     have := (hp.slot i t (by rw [h2]; exact h3)).1 i' (by rw [g2]; exact e)
     subst this
     exact hqn (hp.nodup _ _ _ h1 g1)
    have := ih (by omega) t q i o (by omega) h1 h2 h3
    cases hdo : o'.dst with
    | none => exact this
    | some d =>
     have : d ≠ t := fun e => hne (by rw [hdo, e])
     simp only [gput, Tr.get_set_ne _ _ this]
     assumption
 intro t ht
 by_cases hex : ∃ (i : Nat) (o : Oper), ops[i]? = some o ∧ o.dst = some t
 ·obtain ⟨i, o, hi, hd⟩ := hex
  have hb : (ops[i]?).bind (·.dst) = some t := by rw [hi]; exact hd
  have huniq := (hp.slot i t hb).1
  have hnot : (S i → False) → (∀ q i' o', q < p → (pre ++ post)[q]? = some i' → ops[i']? = some o' → o'.dst ≠ some t) → fs.get t = (F p).get t := fun h1 h2 => by
   rw [hold p (Nat.le_refl _) t h2]
   exact h.old t (fun i' hi' hS' => by rw [huniq i' hi'] at hS'; exact h1 hS')
  by_cases hij : i = j
  ·subst hij
   refine hnot hS fun q i' o' hq h1 h2 e => ?_
   have := huniq i' (by rw [h2]; exact e)
   subst this
   have := hp.nodup _ _ _ h1 hpj
   omega
  ·have hjl : j < ops.size := hp.lt _ _ hpj
   rcases (hp.slot i t hb).2 j hjl (Ne.symm hij) ht with g | g
   · -- the writer waits for this operation
    refine hnot (fun hSi => hS (hclosed i hSi j g)) fun q i' o' hq h1 h2 e => ?_
    have := huniq i' (by rw [h2]; exact e)
    subst this
    obtain ⟨q', hq', h3⟩ := hp.order q i' h1 j g
    have := hp.nodup _ _ _ h3 hpj
    omega
   ·obtain ⟨q, hq, h1⟩ := hp.order p j hpj i g
    rw [h.put t q i h1 hb (hdep i g), hput p (Nat.le_refl _) t q i o hq h1 hi hd]
 ·rw [hold p (Nat.le_refl _) t (fun q i o hq h1 h2 e => hex ⟨i, o, h2, e⟩)]
  exact h.old t (fun i hi _ => by
   cases ho : ops[i]? with
   | none => rw [ho] at hi; cases hi
   | some o => rw [ho] at hi; exact hex ⟨i, o, ho, hi⟩)
theorem count_lt' (listed : Array Bool) (n i : Nat) (hi : i < n) (hl : listed.getD i true = false) :
  ((List.range n).countP fun k => !(listed.setIfInBounds i true).getD k true) < (List.range n).countP fun k => !listed.getD k true := by
 have hsz : i < listed.size := by
  rcases Nat.lt_or_ge i listed.size with h | h
  ·exact h
  ·simp [Array.getD, Nat.not_lt.2 h] at hl
 have hm : ∀ k, (!(listed.setIfInBounds i true).getD k true) = true → (!listed.getD k true) = true := by
  intro k hk
  by_cases e : i = k
  ·subst e; rw [hl]; rfl
  ·rw [Array.getD_eq_getD_getElem?, Array.getElem?_setIfInBounds_ne e, ← Array.getD_eq_getD_getElem?] at hk
   exact hk
 obtain ⟨l1, l2, hs⟩ := List.append_of_mem (List.mem_range.2 hi)
 rw [hs, List.countP_append, List.countP_append, List.countP_cons, List.countP_cons]
 have h1 := List.countP_mono_left (l := l1) (fun k _ => hm k)
 have h2 := List.countP_mono_left (l := l2) (fun k _ => hm k)
 have h3 : (!(listed.setIfInBounds i true).getD i true) = false := by
  rw [Array.getD_eq_getD_getElem?, Array.getElem?_setIfInBounds_self_of_lt hsz]; rfl
 rw [h3, hl]
 simp only [Bool.not_false, Bool.false_eq_true, if_true, if_false]
 omega
theorem any_rounds (hp : Plan P ops gs pre post) {Q : Exit → Act → World → Prop} {act0 : Act}
  (hstep : ∀ (S : Nat → Prop) (a : Act) (w' : World) (m : Nat) (ι' : Inj) (fs : Fr), Inv P base ι H w fr N ops gs pre post K2 V LN S a w' m ι' fs → (∀ j, S j → ∀ i ∈ (befores ops).getD j [], S i) →
   ∀ (p j : Nat) (o : Oper), (pre ++ post)[p]? = some j → ops[j]? = some o → ¬ S j → (∀ i ∈ (befores ops).getD j [], S i) → ∀ K : Act → World → Prop,
    (∀ v' w'' m', StepOk P base H K2 LN p m' (V p) ι' w' v' w'' → Cut gs post (fun i => S i ∨ i = j) m' → K (a.put o.dst v') w'') → wpOp P ops Q j K a w')
  (hd : ∀ o ∈ ops.toList, ∀ d, o.dst = some d → d < N)
  (hend : ∀ (S : Nat → Prop) (a : Act) (w' : World) (m : Nat) (ι' : Inj) (fs : Fr), Inv P base ι H w fr N ops gs pre post K2 V LN S a w' m ι' fs → (∀ p j : Nat, (pre ++ post)[p]? = some j → S j) → Q .normal a w') :
  ∀ (fuel : Nat) (listed : Array Bool) (a : Act) (w' : World) (m : Nat) (ι' : Inj) (fs : Fr), listed.size = ops.size → ((List.range ops.size).countP fun k => !listed.getD k true) ≤ fuel →
   (∀ j o, ops[j]? = some o → listed.getD j false = true → ∀ e ∈ o.after.toList, Region.binds .any e = true → listed.getD e.on false = true) →
   Inv P base ι H w fr N ops gs pre post K2 V LN (fun j => listed.getD j false = true) a w' m ι' fs → wpAny P .any ops Q fuel listed a w' := by
 have hfull : ∀ listed : Array Bool, listed.size = ops.size → Region.ready .any ops listed = [] → ∀ p j : Nat, (pre ++ post)[p]? = some j → listed.getD j false = true := by
  intro listed hls hr p
  induction p using Nat.strongRecOn with
  | _ p ih =>
   intro j hpj
   have hjl := hp.lt p j hpj
   cases hb : listed.getD j false with
   | true => rfl
   | false =>
    exfalso
    have hjs : j < listed.size := by omega
    have hmem : j ∈ Region.ready .any ops listed := by
     unfold Region.ready
     refine List.mem_filter.2 ⟨List.mem_range.2 hjl, ?_⟩
     have ho : ops[j]? = some ops[j] := Array.getElem?_eq_getElem hjl
     have hb' : listed.getD j true = false := by simp [Array.getD, hjs] at hb ⊢; exact hb
     simp only [hb', Bool.not_false, Bool.true_and, ho, Option.map_some, Option.getD_some]
     rw [Array.all_eq_true]
     intro x hx
     have hxm : (ops[j]).after[x] ∈ (ops[j]).after.toList := by simp
     cases hbn : Region.binds .any (ops[j]).after[x] with
     | false => simp
     | true =>
      obtain ⟨q, hq, h1⟩ := hp.order p j hpj _ (direct_mem ho hxm hbn)
      simp [ih q hq _ h1]
    rw [hr] at hmem
    cases hmem
 intro fuel
 induction fuel with
 | zero =>
  intro listed a w' m ι' fs hls hcnt hcl hI
  have hr : Region.ready .any ops listed = [] := by
   rw [List.eq_nil_iff_forall_not_mem]
   intro i hi
   unfold Region.ready at hi
   obtain ⟨h1, h2⟩ := List.mem_filter.1 hi
   simp only [Bool.and_eq_true] at h2
   have h0 : ((List.range ops.size).countP fun k => !listed.getD k true) = 0 := by omega
   rw [List.countP_eq_zero] at h0
   exact h0 i h1 h2.1
  exact ⟨hr, hend _ a w' m ι' fs hI (hfull listed hls hr)⟩
 | succ fuel ih =>
  intro listed a w' m ι' fs hls hcnt hcl hI
  refine ⟨fun hr => hend _ a w' m ι' fs hI (hfull listed hls hr), fun i hi => ?_⟩
  unfold Region.ready at hi
  obtain ⟨h1, h2⟩ := List.mem_filter.1 hi
  have hio : i < ops.size := List.mem_range.1 h1
  have ho : ops[i]? = some ops[i] := Array.getElem?_eq_getElem hio
  simp only [Bool.and_eq_true, Bool.not_eq_true', ho, Option.map_some, Option.getD_some] at h2
  obtain ⟨hnl, hdeps⟩ := h2
  have hils : i < listed.size := by omega
  have hnl' : listed.getD i false = false := by simp [Array.getD, hils] at hnl ⊢; exact hnl
  have hdep : ∀ e ∈ (ops[i]).after.toList, Region.binds .any e = true → listed.getD e.on false = true := by
   intro e he hbn
   rw [Array.all_eq_true] at hdeps
   obtain ⟨x, hx, rfl⟩ := List.getElem_of_mem he
   have h3 := hdeps x (by simpa using hx)
   simp only [Array.getElem_toList] at hbn ⊢
   rw [hbn] at h3
   simpa using h3
  have hcl' := closed_all (ops := ops) (S := fun j => listed.getD j false = true) hcl
  obtain ⟨p, hpi⟩ := hp.all i hio
  have hset : ∀ k, (listed.setIfInBounds i true).getD k false = true ↔ (listed.getD k false = true ∨ k = i) := by
   intro k
   rw [Array.getD_eq_getD_getElem?, Array.getD_eq_getD_getElem?, Array.getElem?_setIfInBounds]
   by_cases e : i = k
   ·subst e; simp [hils]
   ·simp [e, Ne.symm e]
  refine hstep _ a w' m ι' fs hI (fun j hj i' hi' => ?_) p i ops[i] hpi ho (by simp [hnl']) (hcl' i i ops[i] (Nat.le_refl _) ho hdep) _ fun v' w'' m' hs hm => ?_
  ·have hjl : j < ops.size := by
    rcases Nat.lt_or_ge j ops.size with hh | hh
    ·exact hh
    ·simp [Array.getD, show ¬ j < listed.size by omega] at hj
   exact hcl' j j ops[j] (Nat.le_refl _) (Array.getElem?_eq_getElem hjl) (hcl j _ (Array.getElem?_eq_getElem hjl) hj) i' hi'
  ·obtain ⟨ι'', fs', hI'⟩ := hI.step hp hpi ho (by simp [hnl']) (fun d e => hd _ (by simp) d e) hs hm
   refine ih _ _ _ m' ι'' fs' (by simpa using hls) (by have := count_lt' listed ops.size i hio hnl; omega) (fun j o' ho' hj e he hbn => ?_) ?_
   ·rw [hset] at hj ⊢
    rcases hj with hj | rfl
    ·exact .inl (hcl j o' ho' hj e he hbn)
    ·rw [ho] at ho'; cases ho'; exact .inl (hdep e he hbn)
   ·have : (fun k => (listed.setIfInBounds i true).getD k false = true) = fun k => listed.getD k false = true ∨ k = i := funext fun k => propext (hset k)
    rw [this]
    exact hI'
end
end Go.Gh
namespace Go.Gh
set_option linter.unusedVariables false
set_option linter.unusedSimpArgs false
open Go.RowKit
section
variable {P : Program}
theorem reads_args {g : GOper} {f1 f2 : Fr} (h : ∀ t ∈ planOk.reads g, f1.get t = f2.get t) : (∀ x ∈ planOk.args g.op, x.ev f1 = x.ev f2) ∧ ∀ x ∈ g.guard.toList.map (·.1), f1.get x = f2.get x := by
 constructor
 ·intro x hx
  cases x with
  | c v => rfl
  | t n =>
   show f1.get n = f2.get n
   refine h n ?_
   unfold planOk.reads
   exact List.mem_append.2 (.inr (List.mem_filterMap.2 ⟨_, hx, rfl⟩))
 ·intro x hx
  refine h x ?_
  unfold planOk.reads
  exact List.mem_append.2 (.inl hx)
theorem frame_at {ops : Array Oper} {pre post : List Nat} {F : Nat → Fr} {V : Nat → Value} {fr : Fr} (hlt : ∀ p j : Nat, (pre ++ post)[p]? = some j → j < ops.size) (hF0 : F 0 = fr) (hF : ∀ (p j : Nat) (o : Oper), (pre ++ post)[p]? = some j → ops[j]? = some o → F (p + 1) = gput (F p) o.dst (V p)) :
  ∀ n, n ≤ (pre ++ post).length → ∀ t, (∃ (q i : Nat) (o : Oper), q < n ∧ (pre ++ post)[q]? = some i ∧ ops[i]? = some o ∧ o.dst = some t ∧ (F n).get t = some (V q)) ∨
   ((∀ (q i : Nat) (o : Oper), q < n → (pre ++ post)[q]? = some i → ops[i]? = some o → o.dst ≠ some t) ∧ (F n).get t = fr.get t) := by
 intro n
 induction n with
 | zero => intro _ t; exact .inr ⟨fun q _ _ hq => by omega, by rw [hF0]⟩
 | succ n ih =>
  intro hn t
  have h1 := List.getElem?_eq_getElem (show n < (pre ++ post).length by omega)
  have h2 := Array.getElem?_eq_getElem (hlt _ _ h1)
  have h3 := hF n _ _ h1 h2
  by_cases hd : (ops[(pre ++ post)[n]]'(hlt _ _ h1)).dst = some t
  ·left
   refine ⟨n, _, _, by omega, h1, h2, hd, ?_⟩
   rw [h3, hd]; simp [gput]
  ·have hk : (F (n + 1)).get t = (F n).get t := by
    rw [h3]
    cases hdo : (ops[(pre ++ post)[n]]'(hlt _ _ h1)).dst with
    | none => rfl
    | some d =>
     have : d ≠ t := fun e => hd (by rw [hdo, e])
     simp only [gput, Tr.get_set_ne _ _ this]
   rcases ih (by omega) t with ⟨q, i, o, g1, g2, g3, g4, g5⟩ | ⟨g1, g2⟩
   ·exact .inl ⟨q, i, o, by omega, g2, g3, g4, hk.trans g5⟩
   ·refine .inr ⟨fun q i o hq e1 e2 => ?_, hk.trans g2⟩
    by_cases hqn : q = n
    ·subst hqn
     rw [h1] at e1; cases e1
     rw [h2] at e2; cases e2
     exact hd
    ·exact g1 q i o (by omega) e1 e2
theorem any_ok {call : GCall} (hcall : CallOk P call) (hbyte : szK P P.rt.byte = some 1) (hmix : P.follows .mixedOrders = true) {base : Nat} {ι : Inj} {H H' : GHeap} {w : World} {fr fr' : Fr} {act : Act} {N : Nat} {ops : Array Oper} {gs : List GOper} {pre post : List Nat} {hide : List GArg} {id : Nat}
  (hgs : ∀ (j : Nat) (o : Oper), ops[j]? = some o → GRel P ops o (gs.getD j default)) (hplan : planOk ops (befores ops) gs pre post = true) (hd : ∀ o ∈ ops.toList, ∀ d, o.dst = some d → d < N)
  (hrun : gany call hide (pre.map (gs.getD · default)) (post.map fun j => (early (befores ops) (planOk.opOf gs) pre j, gs.getD j default)) fr H = some (fr', H'))
  (hw : H.wf) (h : HR P base H.lim ι H.t w) (hfr : FR ι fr act) (hN : act.tmps.size = N) (hf : ∀ i, H.len ≤ i → i < H'.len → ι i = none)
  {Q : Exit → Act → World → Prop} (hQ : ∀ a' w', Reach P base ι H w N fr' H' a' w' → Q .normal a' w') : (Code.region id ops true).wp P Q act w := by
 have hp := plan_of (P := P) hplan
 unfold gany at hrun
 generalize hhid : (hidden fr hide).filter (· < H.len) = hid at hrun
 have hidlt : ∀ i ∈ hid, i < H.len := by
  intro i hi; rw [← hhid] at hi; simpa using (List.mem_filter.1 hi).2
 split at hrun
 case h_2 => cases hrun
 rename_i fr1 H1 hr1
 obtain ⟨F1, K1, V1, a1, a2, a3, a4, T1⟩ := gsteps_trace _ _ _ _ _ hr1
 obtain ⟨F2, K2, V2, b1, b2, b3, b4, T2⟩ := gpost_trace _ _ _ _ _ hrun
 simp only [List.length_map] at a3 a4 b3 b4
 have hpre : ∀ p j : Nat, pre[p]? = some j → (pre.map (gs.getD · default))[p]? = some (gs.getD j default) := fun p j e => by rw [List.getElem?_map, e]; rfl
 have hpost : ∀ q j : Nat, post[q]? = some j → ((post.map fun j => (early (befores ops) (planOk.opOf gs) pre j, gs.getD j default)).map (·.2))[q]? = some (gs.getD j default) := fun q j e => by simp [List.getElem?_map, e]
 have hes : ∀ q j : Nat, post[q]? = some j → ((post.map fun j => (early (befores ops) (planOk.opOf gs) pre j, gs.getD j default)).map (·.1)).getD q false = early (befores ops) (planOk.opOf gs) pre j := fun q j e => by simp [List.getD, List.getElem?_map, e]
 -- the heaps of the first part
 have hstep1 : ∀ p j : Nat, pre[p]? = some j → (K1 p).wf → Same (K1 p) (K1 (p + 1)) := by
  intro p j e hwf
  obtain ⟨_, g | g⟩ := T1.step p _ (hpre p j e)
  ·exact gdoM_same hcall hwf g.2
  ·rw [g.2.2]; exact Same.refl hwf
 have hwf0 : (K1 0).wf := by rw [a2]; exact ghide_wf hw hid
 have hS1 : ∀ p, p ≤ pre.length → Same (K1 0) (K1 p) := by
  intro p
  induction p with
  | zero => intro _; exact Same.refl hwf0
  | succ p ih =>
   intro hle
   have := ih (by omega)
   exact this.trans (hstep1 p _ (List.getElem?_eq_getElem (by omega)) this.wf)
 have hS12 : ∀ p d, p + d ≤ pre.length → Same (K1 p) (K1 (p + d)) := by
  intro p d
  induction d with
  | zero => intro hle; exact Same.refl (hS1 p (by omega)).wf
  | succ d ih =>
   intro hle
   have := ih (by omega)
   exact this.trans (hstep1 (p + d) _ (List.getElem?_eq_getElem (by omega)) this.wf)
 have hK0 : ∀ i, (K1 0).obj i = (if i ∈ hid then (H.obj i).map (fun o => .dead o.unit) else H.obj i) := fun i => by rw [a2]; exact (ghide_obj hid H i).1
 have hK0len : (K1 0).len = H.len := by rw [a2]; exact (ghide_obj hid H 0).2.1
 have hK0lim : (K1 0).lim = H.lim := by rw [a2]; exact (ghide_obj hid H 0).2.2
 have hB : ∀ i, (K2 0).obj i = (if i ∈ hid then (H.obj i).orElse (fun _ => (K1 pre.length).obj i) else (K1 pre.length).obj i) := fun i => by rw [b2, a4]; exact (gback_obj hid H H1 i).1
 have hBlen : (K2 0).len = (K1 pre.length).len := by rw [b2, a4]; exact (gback_obj hid H H1 0).2.1
 have hBlim : (K2 0).lim = H.lim := by rw [b2, ← a4, (gback_obj hid H _ 0).2.2, (hS1 _ (Nat.le_refl _)).lim, hK0lim]
 have hBwf : (K2 0).wf := by
  rw [b2]
  refine gback_wf ?_ hid fun i hi => ?_
  ·rw [← a4]; exact (hS1 _ (Nat.le_refl _)).wf
  ·rw [← a4]
   have := (hS1 _ (Nat.le_refl pre.length)).len
   have := hidlt i hi
   omega
 -- the heaps of the second part
 have hstep2 : ∀ q j : Nat, post[q]? = some j → (K2 q).wf → Fwd (K2 q) (K2 (q + 1)) := by
  intro q j e hwf
  obtain ⟨_, g | g⟩ := T2.step q _ (hpost q j e)
  ·have := g.2
   unfold runPost at this
   split at this
   ·cases this
   ·exact gdo_fwd hcall hwf (gdoE_some this).1
  ·rw [g.2.2]; exact Fwd.refl _
 have hpureK : ∀ q j : Nat, post[q]? = some j → pureG (planOk.opOf gs j) = true → K2 (q + 1) = K2 q := by
  intro q j e hpu
  obtain ⟨_, g | g⟩ := T2.step q _ (hpost q j e)
  ·have hgd := g.2
   unfold runPost at hgd
   split at hgd
   ·cases hgd
   ·replace hgd := (gdoE_some hgd).1
    have hgp : pureG (gs.getD j default).op = true := hpu
    have : ∃ new, gopM (F2 q) (K2 q) (gs.getD j default).op = some (V2 q, new) ∧ K2 (q + 1) = (K2 q).add new := by
     unfold gdo at hgd
     split at hgd
     ·rename_i hh; rw [hh] at hgp; simp [pureG] at hgp
     ·split at hgd
      ·rename_i hwr
       exfalso
       revert hgp hwr
       cases (gs.getD j default).op <;> simp [pureG, writes]
      ·simp only [Option.map_eq_some_iff, Prod.mk.injEq] at hgd
       obtain ⟨⟨v, new⟩, h1, rfl, h2⟩ := hgd
       exact ⟨new, h1, h2.symm⟩
    obtain ⟨new, h1, h2⟩ := this
    obtain ⟨rfl, _⟩ := pure_any (H' := K2 q) hgp h1 (fun _ _ e => e)
    rw [h2]; rfl
  ·exact g.2.2
 have hspan : ∀ d a, a + d ≤ post.length → (∀ r j : Nat, a ≤ r → r < a + d → post[r]? = some j → pureG (planOk.opOf gs j) = true) → K2 (a + d) = K2 a := by
  intro d
  induction d with
  | zero => intro a _ _; rfl
  | succ d ih =>
   intro a hle hall
   have he := List.getElem?_eq_getElem (show a + d < post.length by omega)
   rw [← Nat.add_assoc, hpureK (a + d) _ he (hall (a + d) _ (by omega) (by omega) he)]
   exact ih a (by omega) fun r j h1 h2 h3 => hall r j h1 (by omega) h3
 have hF2 : ∀ q, q ≤ post.length → Fwd (K2 0) (K2 q) := by
  intro q
  induction q with
  | zero => intro _; exact Fwd.refl _
  | succ q ih =>
   intro hle
   have := ih (by omega)
   exact this.trans (hstep2 q _ (List.getElem?_eq_getElem (by omega)) (this.wf hBwf))
 -- all together
 let F : Nat → Fr := fun p => if p ≤ pre.length then F1 p else F2 (p - pre.length)
 let V : Nat → Value := fun p => if p < pre.length then V1 p else V2 (p - pre.length)
 let LN : Nat → Nat := fun p => if p ≤ pre.length then (K1 p).len else (K2 (p - pre.length)).len
 have hLN1 : ∀ p, p ≤ pre.length → LN p = (K1 p).len := fun p hpl => by simp only [LN, if_pos hpl]
 have hLN2 : ∀ q, LN (pre.length + q) = (K2 q).len := fun q => by
  by_cases hq : q = 0
  ·subst hq; simp only [LN, Nat.add_zero, Nat.le_refl, if_true]; exact hBlen.symm
  ·simp only [LN]; rw [if_neg (by omega), Nat.add_sub_cancel_left]
 have hFp2 : ∀ q, F (pre.length + q) = F2 q := fun q => by
  by_cases hq : q = 0
  ·subst hq; simp only [F, Nat.add_zero, Nat.le_refl, if_true]; rw [b1, a3]
  ·simp only [F]; rw [if_neg (by omega), Nat.add_sub_cancel_left]
 have hLget : ∀ p j : Nat, (pre ++ post)[p]? = some j → (p < pre.length ∧ pre[p]? = some j) ∨ (∃ q, p = pre.length + q ∧ post[q]? = some j) := by
  intro p j e
  rcases Nat.lt_or_ge p pre.length with hlt | hge
  ·rw [List.getElem?_append_left hlt] at e; exact .inl ⟨hlt, e⟩
  ·rw [List.getElem?_append_right hge] at e; exact .inr ⟨p - pre.length, by omega, e⟩
 have hLNmono1 : ∀ p, p < (pre ++ post).length → LN p ≤ LN (p + 1) := by
  intro p hpl
  rcases hLget p _ (List.getElem?_eq_getElem hpl) with ⟨hlt, e⟩ | ⟨q, rfl, e⟩
  ·rw [hLN1 p (by omega), hLN1 (p + 1) (by omega)]
   exact (hstep1 p _ e (hS1 p (by omega)).wf).len
  ·rw [hLN2 q, show pre.length + q + 1 = pre.length + (q + 1) by omega, hLN2]
   have hq : q ≤ post.length := Nat.le_of_lt (List.getElem?_eq_some_iff.1 e).1
   exact (hstep2 q _ e ((hF2 q hq).wf hBwf)).len
 have hLNmono : ∀ d p, p + d ≤ (pre ++ post).length → LN p ≤ LN (p + d) := by
  intro d
  induction d with
  | zero => intro p _; exact Nat.le_refl _
  | succ d ih => intro p hle; exact Nat.le_trans (ih p (by omega)) (hLNmono1 (p + d) (by omega))
 have hLN0 : LN 0 = H.len := by rw [hLN1 0 (Nat.zero_le _), hK0len]
 have hLNn : LN (pre ++ post).length = H'.len := by rw [List.length_append, hLN2, b4]
 have hFstep : ∀ (p j : Nat) (o : Oper), (pre ++ post)[p]? = some j → ops[j]? = some o → F (p + 1) = gput (F p) o.dst (V p) := by
  intro p j o e ho
  have hdst := (hgs j o ho).1
  rcases hLget p j e with ⟨hlt, e1⟩ | ⟨q, rfl, e1⟩
  ·have := (T1.step p _ (hpre p j e1)).1
   rw [hdst] at this
   simp only [F, V, if_pos (Nat.le_of_lt hlt), if_pos (show p + 1 ≤ pre.length by omega), if_pos hlt]
   exact this
  ·have := (T2.step q _ (hpost q j e1)).1
   rw [hdst] at this
   rw [show pre.length + q + 1 = pre.length + (q + 1) by omega, hFp2, hFp2]
   simp only [V]
   rw [if_neg (by omega), Nat.add_sub_cancel_left]
   exact this
 have hF0 : F 0 = fr := by simp only [F, Nat.zero_le, if_true]; exact a1
 have hfreshAt : ∀ (S : Nat → Prop) (a : Act) (w' : World) (m : Nat) (ι' : Inj) (fs : Fr), Inv P base ι H w fr N ops gs pre post K2 V LN S a w' m ι' fs → ∀ p j : Nat, (pre ++ post)[p]? = some j → ¬ S j → ∀ i, LN p ≤ i → i < LN (p + 1) → ι' i = none := by
  intro S a w' m ι' fs hI p j e hS i h1 h2
  have hpl := (List.getElem?_eq_some_iff.1 e).1
  cases hi : ι' i with
  | none => rfl
  | some l =>
   exfalso
   rcases hI.new i l hi with g | ⟨_, q, j', g1, g2, g3, g4⟩
   ·rw [hf i] at g
    ·cases g
    ·have := hLNmono p 0 (by omega); rw [Nat.zero_add, hLN0] at this; omega
    ·have := hLNmono ((pre ++ post).length - (p + 1)) (p + 1) (by omega)
     rw [show p + 1 + ((pre ++ post).length - (p + 1)) = (pre ++ post).length by omega, hLNn] at this
     omega
   ·have hql := (List.getElem?_eq_some_iff.1 g1).1
    rcases Nat.lt_trichotomy p q with hh | hh | hh
    ·have := hLNmono (q - (p + 1)) (p + 1) (by omega)
     rw [show p + 1 + (q - (p + 1)) = q by omega] at this
     omega
    ·subst hh; rw [e] at g1; cases g1; exact hS g2
    ·have := hLNmono (p - (q + 1)) (q + 1) (by omega)
     rw [show q + 1 + (p - (q + 1)) = p by omega] at this
     omega
 -- what is alive in the first part is alive later on
 have hunits : ∀ p m, p ≤ pre.length → m ≤ post.length → ∀ i u, (K1 p).unit i = some u → (K2 m).unit i = some u := by
  intro p m hpl hml i u hu
  refine (hF2 m hml).unit i u ?_
  have hobj : (K1 p).obj i ≠ none := fun e => by unfold GHeap.unit at hu; rw [e] at hu; cases hu
  have hlt : i < (K1 p).len := by
   rw [← (hS1 p hpl).wf.2 i]
   cases ho : (K1 p).obj i with
   | none => exact absurd ho hobj
   | some o => rfl
  have hs := hS12 p (pre.length - p) (by omega)
  rw [show p + (pre.length - p) = pre.length by omega] at hs
  have hn : (K1 pre.length).obj i = (K1 p).obj i := hs.obj i hlt
  unfold GHeap.unit at hu ⊢
  rw [hB i]
  by_cases hi : i ∈ hid
  ·rw [if_pos hi]
   have hil := hidlt i hi
   have e0 : (K1 p).obj i = (K1 0).obj i := (hS1 p hpl).obj i (by rw [hK0len]; exact hil)
   rw [e0, hK0 i, if_pos hi] at hu
   cases ho : H.obj i with
   | none => rw [ho] at hu; cases hu
   | some o => rw [ho] at hu; simpa [GObj.unit] using hu
  ·rw [if_neg hi, hn]; exact hu
 have hsub : ∀ (S : Nat → Prop) (p m j : Nat), pre[p]? = some j → pureG (planOk.opOf gs j) = false → ¬ S j → m ≤ post.length → (∀ q i, post[q]? = some i → pureG (planOk.opOf gs i) = false → (S i ↔ q < m)) → (∀ j, S j → ∀ i ∈ (befores ops).getD j [], S i) →
   ∀ p', p' ≤ p + 1 → ∀ i o, (K1 p').t.get i = some o → (K2 m).t.get i = some o ∨ ∃ o1, (K2 m).t.get i = some o1 ∧ o = .dead o1.unit ∧ i < H.len := by
  intro S p m j hpj hnp hS hml hpm hcl p' hp' i o ho
  have hpl : p < pre.length := (List.getElem?_eq_some_iff.1 hpj).1
  have hp'l : p' ≤ pre.length := by omega
  have hlt : i < (K1 p').len := by
   rw [← (hS1 p' hp'l).wf.2 i]
   show ((K1 p').t.get i).isSome = true
   rw [ho]; rfl
  -- behind 'post' so far: what is not hidden is asl it was
  have hspare : ∀ q, q ≤ m → ∀ i, i ∉ hid → i < (K2 0).len → (K2 q).obj i = (K2 0).obj i := by
   intro q
   induction q with
   | zero => intro _ i _ _; rfl
   | succ q ih =>
    intro hq i hi hil
    have hql : q < post.length := by omega
    have hge := List.getElem?_eq_getElem hql
    refine Eq.trans ?_ (ih (by omega) i hi hil)
    have hKq := hF2 q (by omega)
    by_cases hpq : pureG (planOk.opOf gs post[q]) = true
    ·rw [hpureK q _ hge hpq]
    have hpq' : pureG (planOk.opOf gs post[q]) = false := by simpa using hpq
    have hSq : S (post[q]) := (hpm q _ hge hpq').2 (by omega)
    obtain ⟨_, g | g⟩ := T2.step q _ (hpost q _ hge)
    ·have hgd := g.2
     unfold runPost at hgd
     rw [hes q _ hge] at hgd
     split at hgd
     ·cases hgd
     ·rename_i hea
      have he : Gh.early (befores ops) (planOk.opOf gs) pre post[q] = true := by
       cases he : Gh.early (befores ops) (planOk.opOf gs) pre post[q] with
       | true => rfl
       | false =>
        exfalso
        unfold Gh.early at he
        rw [hpq'] at he
        simp only [Bool.not_false, Bool.true_and, Bool.not_eq_false', List.all_eq_true] at he
        have := he j (List.mem_of_getElem? hpj)
        rw [hnp] at this
        simp only [Bool.or_false] at this
        exact hS (hcl _ hSq j (by simpa [bef] using this))
      obtain ⟨hgd, hkept⟩ := gdoE_some hgd
      have hil' : i < (K2 q).len := by have := hKq.len; omega
      by_cases hwr : writes (gs.getD post[q] default).op = true
      ·have haim : aims (F2 q) hid (gs.getD post[q] default).op = true := by
        cases ha : aims (F2 q) hid (gs.getD post[q] default).op with
        | true => rfl
        | false => rw [he, ha] at hea; simp at hea
       have hgw : gopW (F2 q) (K2 q) (gs.getD post[q] default).op = some (V2 q, K2 (q + 1)) := by
        unfold gdo at hgd
        split at hgd
        ·rename_i hh
         rw [hh] at hwr; simp [writes] at hwr
        ·rw [if_pos hwr] at hgd
         exact hgd
       refine (gopW_fwd (hKq.wf hBwf) hgw).2 hid (fun x t hx hxt k hk => ?_) i hil' hi
       unfold aims at haim
       rw [hx] at haim
       simp only [Option.bind_some, hxt, List.all_eq_true] at haim
       simpa using haim k hk
      ·by_cases hcl' : isCall (gs.getD post[q] default).op = true
       ·exact keptB_of (hkept he hcl') i hil' hi
       ·unfold gdo at hgd
        split at hgd
        ·rename_i hh
         rw [hh] at hcl'; simp [isCall] at hcl'
        ·rw [if_neg hwr] at hgd
         simp only [Option.map_eq_some_iff, Prod.mk.injEq] at hgd
         obtain ⟨⟨v, new⟩, _, _, h2⟩ := hgd
         rw [← h2]
         cases new with
         | none => rfl
         | some o' => rw [obj_add, if_neg (by omega)]
    ·rw [g.2.2]
  by_cases hi : i ∈ hid
  ·right
   have hil := hidlt i hi
   have e0 : (K1 p').obj i = (K1 0).obj i := (hS1 p' hp'l).obj i (by rw [hK0len]; exact hil)
   have ho' : (K1 p').obj i = some o := ho
   have hu : (K1 p').unit i = some o.unit := by unfold GHeap.unit; rw [ho']; rfl
   have hu2 := hunits p' m hp'l hml i _ hu
   rw [e0, hK0 i, if_pos hi] at ho'
   cases hoH : H.obj i with
   | none => rw [hoH] at ho'; cases ho'
   | some oH =>
    rw [hoH] at ho'
    simp only [Option.map_some, Option.some.injEq] at ho'
    unfold GHeap.unit at hu2
    cases hoM : (K2 m).obj i with
    | none => rw [hoM] at hu2; cases hu2
    | some oM =>
     rw [hoM] at hu2
     simp only [Option.map_some, Option.some.injEq] at hu2
     refine ⟨oM, hoM, ?_, hil⟩
     rw [hu2, ← ho']; rfl
  ·left
   have hs := hS12 p' (pre.length - p') (by omega)
   rw [show p' + (pre.length - p') = pre.length by omega] at hs
   have hlt2 : i < (K2 0).len := by rw [hBlen]; exact Nat.lt_of_lt_of_le hlt hs.len
   have : (K2 m).obj i = (K1 p').obj i := by
    rw [hspare m (Nat.le_refl _) i hi hlt2, hB i, if_neg hi]
    exact hs.obj i hlt
   show (K2 m).obj i = some o
   rw [this]; exact ho
 -- the rounds
 have hlen0 : ∀ q, q ≤ post.length → (K2 q).lim = H.lim := fun q hq => (hF2 q hq).lim.trans hBlim
 have hlow : H.lim ≤ H.len := hw.1
 have hHlenLN : ∀ p, p ≤ (pre ++ post).length → H.len ≤ LN p := fun p hpl => by
  have := hLNmono p 0 (by omega)
  rw [Nat.zero_add, hLN0] at this; exact this
 have hinit : Inv P base ι H w fr N ops gs pre post K2 V LN (fun j => (Array.replicate ops.size false).getD j false = true) act w.drew 0 ι fr := by
  have hno : ∀ j, ¬ (Array.replicate ops.size false).getD j false = true := by
   intro j hj
   rw [Array.getD_eq_getD_getElem?, Array.getElem?_replicate] at hj
   split at hj <;> simp at hj
  refine ⟨Inj.le.refl _, fun i l e => .inl e, ?_, (Below.refl _ _).drew, hfr, hN, fun t p j _ _ hj => absurd hj (hno j), fun _ _ => rfl, Nat.zero_le _, fun q j _ _ => ⟨fun hj => absurd hj (hno j), fun hh => by omega⟩⟩
  have hobj : ∀ i l o, ι i = some l → (K2 0).t.get i = some o → H.t.get i = some o := by
   intro i l o e ho
   have hlt : i < (K2 0).len := (hBwf.2 i).1 (by show ((K2 0).t.get i).isSome = true; rw [ho]; rfl)
   have hltH : i < H.len := by
    rcases Nat.lt_or_ge i H.len with hh | hh
    ·exact hh
    ·have h1 := hLN2 0
     have h2 := hLNmono post.length pre.length (by rw [List.length_append]; omega)
     rw [Nat.add_zero] at h1
     rw [h1, ← List.length_append, hLNn] at h2
     rw [hf i hh (by omega)] at e; cases e
   have ho' : (K2 0).obj i = some o := ho
   have hK : (K1 pre.length).obj i = (K1 0).obj i := (hS1 _ (Nat.le_refl _)).obj i (by rw [hK0len]; exact hltH)
   rw [hB i] at ho'
   by_cases hi : i ∈ hid
   ·rw [if_pos hi] at ho'
    have hs : (H.obj i).isSome = true := (hw.2 i).2 hltH
    cases hoH : H.obj i with
    | none => rw [hoH] at hs; cases hs
    | some oH => rw [hoH] at ho'; cases ho'; exact hoH
   ·rw [if_neg hi, hK, hK0 i, if_neg hi] at ho'
    exact ho'
  exact HR.le (HR.some_ h (Inj.le.refl _) (fun _ _ e => e) (fun i l o e ho => .inl (hobj i l o e ho)) (fun i l o e ho hv => h.obj i l o e (hobj i l o e ho)) h.glob) (Le.drew w)
 refine wp_region_any hmix (any_rounds (act0 := act) hp ?_ hd ?_ ops.size _ act w.drew 0 ι fr (by simp) (Nat.le_trans (List.countP_le_length) (by simp)) (fun j o _ hj => ?_) hinit)
 ·intro S a w' m ι' fs hI hcl p j o hpj ho hS hdep K hK
  have hag := hI.agree (gs := gs) (F := F) hp hF0 hFstep hcl hpj hS hdep
  obtain ⟨hdst, hgd, hop⟩ := hgs j o ho
  have hdd : ∀ d, o.dst = some d → d < a.tmps.size := fun d hd' => by rw [hI.sz]; exact hd _ (List.mem_of_getElem? (by rw [Array.getElem?_toList]; exact ho)) d hd'
  obtain ⟨hra, hrg⟩ := reads_args hag
  have hwant : ∀ b, gwants (F p) (gs.getD j default).guard = some b → (gs.getD j default).op ≠ .bad ∨ b = false → Region.wanted o (yielded ops a.tmps) = b := by
   intro b hb hnb
   rw [← gwants_agree hrg] at hb
   rcases hgd with hgd | ⟨hgn, hbad⟩
   ·exact wants_ok hgd hI.frame hb
   ·rw [hgn] at hb
    cases hb
    rcases hnb with hnb | hnb
    ·exact absurd hbad hnb
    ·cases hnb
  have hskip : ∀ m', V p = undef → gwants (F p) (gs.getD j default).guard = some false → Cut gs post (fun i => S i ∨ i = j) m' → HR P base H.lim ι' (K2 m').t w' → wpOp P ops Q j K a w' := by
   intro m' hv hwt hcut hR
   unfold wpOp
   simp only [ho]
   rw [if_neg (by rw [hwant false hwt (.inr rfl)]; simp)]
   refine hK undef w' m' ⟨ι', Inj.le.refl _, by rw [hv]; exact .tup rfl (by simp), hR, Below.refl _ _, fun i l e => .inl e⟩ hcut
  have hgo : (gs.getD j default).op ≠ .bad → gwants (F p) (gs.getD j default).guard = some true → ∀ m', Cut gs post (fun i => S i ∨ i = j) m' →
    (∀ K' : Act → World → Prop, (∀ v' w'', StepOk P base H K2 LN p m' (V p) ι' w' v' w'' → K' (a.put o.dst v') w'') → o.wp P a w' K' Q) → wpOp P ops Q j K a w' := by
   intro hnb hwt m' hcut hs
   unfold wpOp
   simp only [ho]
   rw [if_pos (hwant true hwt (.inl hnb))]
   exact .inl (hs K fun v' w'' h1 => hK v' w'' m' h1 hcut)
  rcases hLget p j hpj with ⟨hlt, e1⟩ | ⟨q, rfl, e1⟩
  ·have hVp : V p = V1 p := by simp only [V, if_pos hlt]
   have hFp : F p = F1 p := by simp only [F, if_pos (Nat.le_of_lt hlt)]
   have hcut : Cut gs post (fun i => S i ∨ i = j) m := by
    refine ⟨hI.post.1, fun q i hq hip => ⟨fun hh => ?_, fun hh => .inl ((hI.post.2 q i hq hip).2 hh)⟩⟩
    rcases hh with hh | rfl
    ·exact (hI.post.2 q i hq hip).1 hh
    ·exfalso
     have h1 : (pre ++ post)[pre.length + q]? = some i := by rw [List.getElem?_append_right (by omega), Nat.add_sub_cancel_left]; exact hq
     have := hp.nodup _ _ _ hpj h1
     omega
   have hml := hI.post.1
   obtain ⟨_, g | g⟩ := T1.step p _ (hpre p j e1)
   ·obtain ⟨g1, g2⟩ := g
    have hnb : (gs.getD j default).op ≠ .bad := fun e => by
     rw [e] at g2; simp [gdoM, gopM] at g2
    refine hgo hnb (by rw [hFp]; exact g1) m hcut fun K' hK' => ?_
    rw [← hFp, ← gdoM_agree hra] at g2
    have hor : opRel P o.op (gs.getD j default).op := hop.resolve_right hnb
    have hfresh := hfreshAt S a w' m ι' fs hI p j hpj hS
    rw [hLN1 p (Nat.le_of_lt hlt), hLN1 (p + 1) (by omega)] at hfresh
    have hwfp := (hS1 p (Nat.le_of_lt hlt)).wf
    by_cases hpu : pureG (planOk.opOf gs j) = true
    ·have hpu' : pureG (gs.getD j default).op = true := hpu
     have : ∃ new, gopM fs (K1 p) (gs.getD j default).op = some (V1 p, new) := by
      unfold gdoM at g2
      split at g2
      ·rename_i hh; rw [hh] at hpu'; simp [pureG] at hpu'
      ·simp only [Option.map_eq_some_iff, Prod.mk.injEq] at g2
       obtain ⟨⟨v, new⟩, h1, rfl, h2⟩ := g2
       exact ⟨new, h1⟩
     obtain ⟨new, h1⟩ := this
     obtain ⟨_, h2⟩ := pure_any (H' := K2 m) hpu' h1 (hunits p m (Nat.le_of_lt hlt) hml)
     have hR : HR P base (K2 m).lim ι' (K2 m).t w' := by rw [hlen0 m hml]; exact hI.hr
     obtain ⟨v', ι'', w'', r1, r2, r3, r4, r5, _⟩ := gopM_ok hor h2 hR hI.frame hbyte (by simp)
     obtain rfl := r5 rfl
     unfold Oper.wp
     rw [r1]
     refine hK' v' w'' ⟨ι'', Inj.le.refl _, by rw [hVp]; exact r3, by rw [← hlen0 m hml]; exact r4, r2.mono hI.hr.low, fun i l e => .inl e⟩
    ·have hnp : pureG (planOk.opOf gs j) = false := by simpa using hpu
     have hsb := hsub S p m j e1 hnp hS hml hI.post.2 hcl
     have hsub' : HR P base H.lim ι' (K1 p).t w' := hI.hr.sub fun i o hi => by
      rcases hsb p (by omega) i o hi with g | ⟨o1, g1, g2, _⟩
      ·exact .inl g
      ·exact .inr ⟨o1, g1, g2⟩
     have hback : ∀ i, H.len ≤ i → i < (K1 (p + 1)).len → ∀ o, (K2 m).t.get i = some o → (K1 (p + 1)).t.get i = some o := by
      intro i hi1 hi2 o ho2
      have hwf1 := (hS1 (p + 1) (by omega)).wf
      have : ((K1 (p + 1)).obj i).isSome = true := (hwf1.2 i).2 hi2
      cases hoi : (K1 (p + 1)).obj i with
      | none => rw [hoi] at this; cases this
      | some o' =>
       rcases hsb (p + 1) (Nat.le_refl _) i o' hoi with g | ⟨_, _, _, g⟩
       ·rw [g] at ho2; cases ho2; exact hoi
       ·omega
     have hlenp : H.len ≤ (K1 p).len := by rw [← hLN1 p (Nat.le_of_lt hlt)]; exact hHlenLN p (by rw [List.length_append]; omega)
     unfold gdoM at g2
     split at g2
     ·rename_i f xs hcall'
      simp only [Option.bind_eq_some_iff, Option.map_eq_some_iff, Prod.mk.injEq] at g2
      obtain ⟨⟨f', args⟩, t1, ⟨v', H2⟩, t2, t3, t4⟩ := g2
      rw [hcall'] at hor
      have hc' : cOp P o.op = some (.call f xs) := by
       rcases hor with hc | ⟨_, _, _, _, _, _, e⟩
       ·exact hc
       ·cases e
      refine call_wp (H := ⟨(K1 p).t, (K1 p).len, (K1 p).len⟩) (base := w'.heap.size) hcall hc' t1 t2 ⟨Nat.le_refl _, hwfp.2⟩ hI.hr (hsub'.shut' (K1 p).len w'.heap.size (Nat.le_refl _) hsub'.low (fun i hi => ?_)) hI.frame ?_ fun v'' w'' hA => ?_
      ·have := hwfp.2 i
       cases hoi : (K1 p).t.get i with
       | none => rfl
       | some o' => have := (this.1 (by show ((K1 p).t.get i).isSome = true; rw [hoi]; rfl)); omega
      ·intro i h1 h2
       refine hfresh i h1 ?_
       rw [← t4]; exact h2
      ·obtain ⟨ι'', r1, r2, r3, r4, r5⟩ := hA
       have hK1' : (K1 (p + 1)).t = H2.t ∧ (K1 (p + 1)).len = H2.len := by rw [← t4]; exact ⟨rfl, rfl⟩
       refine hK' v'' w'' ⟨ι'', r4, by rw [hVp, ← t3]; exact r1, HR.join hI.hr r2 r3 r4 fun i l e => ?_, r3.mono hI.hr.low, fun i l e => ?_⟩
       ·rcases r5 i l e with g | ⟨g1, g2, g3⟩
        ·exact .inl g
        ·refine .inr ⟨hfresh i g1 (by rw [hK1'.2]; exact g2), g1, g3, fun o' ho' => ?_⟩
         rw [← hK1'.1]
         exact hback i (by simp only at g1; omega) (by rw [hK1'.2]; exact g2) o' ho'
       ·rcases r5 i l e with g | ⟨g1, g2, g3⟩
        ·exact .inl g
        ·exact .inr ⟨Nat.le_trans hI.hr.low g3, by rw [hLN1 p (Nat.le_of_lt hlt)]; exact g1, by rw [hLN1 (p + 1) (by omega), hK1'.2]; exact g2⟩
     ·simp only [Option.map_eq_some_iff, Prod.mk.injEq] at g2
      obtain ⟨⟨v, new⟩, h1, rfl, h2⟩ := g2
      have hlimp : (K1 p).lim = H.lim := ((hS1 p (Nat.le_of_lt hlt)).lim).trans hK0lim
      have hn : new.isSome = true → ι' (K1 p).len = none := fun hs => hfresh _ (Nat.le_refl _) (by rw [← h2]; cases new <;> simp [GHeap.add] at hs ⊢)
      obtain ⟨v', ι'', w'', r1, r2, r3, r4, r5, r6⟩ := gopM_ok hor h1 hsub' hI.frame hbyte hn
      have hnew : ∀ i l, ι'' i = some l → ι' i = some l ∨ (i = (K1 p).len ∧ w'.heap.size ≤ l.block ∧ (K1 (p + 1)).len = (K1 p).len + 1) := by
       intro i l e
       cases new with
       | none => rw [r5 rfl] at e; exact .inl e
       | some o' =>
        obtain ⟨L, rfl, hL⟩ := r6 o' rfl
        by_cases hi : i = (K1 p).len
        ·subst hi
         rw [Inj.upd_same] at e; cases e
         exact .inr ⟨rfl, hL, by rw [← h2]; rfl⟩
        ·rw [Inj.upd_ne _ _ hi] at e; exact .inl e
      have hle : ι'.le ι'' := by
       cases new with
       | none => rw [r5 rfl]; exact Inj.le.refl _
       | some o' => obtain ⟨L, rfl, _⟩ := r6 o' rfl; exact Inj.le_upd L (hn rfl)
      rw [h2] at r4
      unfold Oper.wp
      rw [r1]
      refine hK' v' w'' ⟨ι'', hle, by rw [hVp]; exact r3, HR.join hI.hr r4 r2 hle fun i l e => ?_, r2.mono hI.hr.low, fun i l e => ?_⟩
      ·rcases hnew i l e with g | ⟨g1, g2, g3⟩
       ·exact .inl g
       ·exact .inr ⟨hfresh i (by omega) (by omega), by omega, g2, hback i (by omega) (by omega)⟩
      ·rcases hnew i l e with g | ⟨g1, g2, g3⟩
       ·exact .inl g
       ·exact .inr ⟨Nat.le_trans hI.hr.low g2, by rw [hLN1 p (Nat.le_of_lt hlt)]; omega, by rw [hLN1 (p + 1) (by omega)]; omega⟩
   ·exact hskip m (by rw [hVp]; exact g.2.1) (by rw [hFp]; exact g.1) hcut hI.hr
  · -- in the second part
   have hql : q < post.length := (List.getElem?_eq_some_iff.1 e1).1
   have hml := hI.post.1
   have hiff : ∀ r i : Nat, post[r]? = some i → pureG (planOk.opOf gs i) = false → (S i ↔ r < q) := by
    intro r i hr hip
    rcases Nat.lt_trichotomy r q with hh | rfl | hh
    ·refine ⟨fun _ => hh, fun _ => ?_⟩
     rcases hp.chain q j e1 r i hh hr with g | g
     ·exact hdep i g
     ·rw [g.1] at hip; cases hip
    ·rw [e1] at hr; cases hr
     exact ⟨fun g => absurd g hS, fun g => absurd g (Nat.lt_irrefl _)⟩
    ·refine ⟨fun g => ?_, fun g => by omega⟩
     rcases hp.chain r i hr q j hh e1 with g' | g'
     ·exact absurd (hcl i g j g') hS
     ·rw [g'.2] at hip; cases hip
   have hKm : K2 m = K2 q := by
    rcases Nat.le_total q m with hh | hh
    ·have := hspan (m - q) q (by omega) fun r i h1 h2 h3 => by
      by_cases hip : pureG (planOk.opOf gs i) = true
      ·exact hip
      ·have hip' : pureG (planOk.opOf gs i) = false := by simpa using hip
       have g1 := (hI.post.2 r i h3 hip').2 (by omega)
       have := (hiff r i h3 hip').1 g1
       omega
     rwa [Nat.add_sub_cancel' hh] at this
    ·have := hspan (q - m) m (by omega) fun r i h1 h2 h3 => by
      by_cases hip : pureG (planOk.opOf gs i) = true
      ·exact hip
      ·have hip' : pureG (planOk.opOf gs i) = false := by simpa using hip
       have g1 := (hiff r i h3 hip').2 (by omega)
       have := (hI.post.2 r i h3 hip').1 g1
       omega
     rw [Nat.add_sub_cancel' hh] at this
     exact this.symm
   have hcut : Cut gs post (fun i => S i ∨ i = j) (q + 1) := by
    refine ⟨hql, fun r i hr hip => ⟨fun hh => ?_, fun hh => ?_⟩⟩
    ·rcases hh with hh | rfl
     ·have := (hiff r i hr hip).1 hh; omega
     ·have h1 : (pre ++ post)[pre.length + r]? = some i := by rw [List.getElem?_append_right (by omega), Nat.add_sub_cancel_left]; exact hr
      have := hp.nodup _ _ _ hpj h1
      omega
    ·by_cases hrq : r = q
     ·subst hrq; rw [e1] at hr; cases hr; exact .inr rfl
     ·exact .inl ((hiff r i hr hip).2 (by omega))
   have hIhr : HR P base H.lim ι' (K2 q).t w' := by rw [← hKm]; exact hI.hr
   have hVp : V (pre.length + q) = V2 q := by simp only [V]; rw [if_neg (by omega), Nat.add_sub_cancel_left]
   obtain ⟨_, g | g⟩ := T2.step q _ (hpost q j e1)
   ·obtain ⟨g1, g2⟩ := g
    unfold runPost at g2
    split at g2
    ·cases g2
    ·replace g2 := (gdoE_some g2).1
     have hnb : (gs.getD j default).op ≠ .bad := fun e => by rw [e] at g2; exact bad_stuck g2
     refine hgo hnb (by rw [hFp2]; exact g1) (q + 1) hcut fun K' hK' => ?_
     rw [← hFp2, ← gdo_agree hra] at g2
     have hor : opRel P o.op (gs.getD j default).op := hop.resolve_right hnb
     have hfresh := hfreshAt S a w' m ι' fs hI _ j hpj hS
     rw [hLN2 q, show pre.length + q + 1 = pre.length + (q + 1) by omega, hLN2] at hfresh
     have hqle : q ≤ post.length := Nat.le_of_lt hql
     have hR : HR P base (K2 q).lim ι' (K2 q).t w' := by rw [hlen0 q hqle]; exact hIhr
     refine gdo_ok hcall hbyte hor g2 ((hF2 q hqle).wf hBwf) hR hI.frame hfresh fun v' w'' hA => ?_
     obtain ⟨ι'', r1, r2, r3, r4, r5⟩ := hA
     refine hK' v' w'' ⟨ι'', r4, by rw [hVp]; exact r1, by rw [← hlen0 q hqle]; exact r2, r3, fun i l e => ?_⟩
     rcases r5 i l e with g | ⟨g1, g2, g3⟩
     ·exact .inl g
     ·exact .inr ⟨g3, by rw [hLN2]; exact g1, by rw [show pre.length + q + 1 = pre.length + (q + 1) by omega, hLN2]; exact g2⟩
   ·exact hskip (q + 1) (by rw [hVp]; exact g.2.1) (by rw [hFp2]; exact g.1) hcut (by rw [g.2.2]; exact hIhr)
 ·intro S a w' m ι' fs hI hall
  have hKm : K2 m = K2 post.length := by
   have hml := hI.post.1
   have := hspan (post.length - m) m (by omega) fun r i h1 h2 h3 => by
    by_cases hip : pureG (planOk.opOf gs i) = true
    ·exact hip
    ·have hip' : pureG (planOk.opOf gs i) = false := by simpa using hip
     have g1 := (hI.post.2 r i h3 hip').1 (hall (pre.length + r) _ (by rw [List.getElem?_append_right (by omega), Nat.add_sub_cancel_left]; exact h3))
     omega
   rw [Nat.add_sub_cancel' hml] at this
   exact this.symm
  have hIhr : HR P base H.lim ι' (K2 post.length).t w' := by rw [← hKm]; exact hI.hr
  refine hQ a w' ⟨ι', ⟨hI.frame.1, fun t v hv => hI.frame.2 t v ?_⟩, hI.sz, by rw [← b4]; exact hIhr, hI.bel, hI.le, fun i l e => ?_⟩
  ·have hFn : F (pre ++ post).length = fr' := by rw [List.length_append, hFp2, b3]
   rw [← hFn] at hv
   rcases frame_at hp.lt hF0 hFstep _ (Nat.le_refl _) t with ⟨q, i, o, g1, g2, g3, g4, g5⟩ | ⟨g1, g2⟩
   ·rw [g5] at hv
    rw [hI.put t q i g2 (by rw [g3]; exact g4) (hall q i g2)]; exact hv
   ·rw [g2] at hv
    rw [hI.old t fun i hi hSi => ?_]
    ·exact hv
    ·cases hoi : ops[i]? with
     | none => rw [hoi] at hi; cases hi
     | some o =>
      rw [hoi] at hi
      obtain ⟨q, hq⟩ := hp.all i (Array.getElem?_eq_some_iff.1 hoi).1
      exact g1 q i o (List.getElem?_eq_some_iff.1 hq).1 hq hoi hi
  ·rcases hI.new i l e with g | ⟨g1, p, j, g2, _, g3, g4⟩
   ·exact .inl g
   ·have hpl := (List.getElem?_eq_some_iff.1 g2).1
    have := hHlenLN p (by omega)
    have h2 := hLNmono ((pre ++ post).length - (p + 1)) (p + 1) (by omega)
    rw [show p + 1 + ((pre ++ post).length - (p + 1)) = (pre ++ post).length by omega, hLNn] at h2
    exact .inr ⟨by omega, by omega, g1⟩
 ·exfalso
  rw [Array.getD_eq_getD_getElem?, Array.getElem?_replicate] at hj
  split at hj <;> simp at hj
end
end Go.Gh
namespace Go.Gh
set_option linter.unusedVariables false
set_option linter.unusedSimpArgs false
open Go.RowKit
section
variable {P : Program} {call : GCall}
theorem gsteps_same (hcall : CallOk P call) : ∀ (l : List GOper) (fr fr' : Fr) (H H' : GHeap), H.wf → gsteps (gdoM call) l fr H = some (fr', H') → Same H H'
 | [], fr, fr', H, H', hw, h => by cases h; exact Same.refl hw
 | o :: r, fr, fr', H, H', hw, h => by
  simp only [gsteps] at h
  split at h
  ·split at h
   ·rename_i v H1 h1
    have := gdoM_same hcall hw h1
    exact this.trans (gsteps_same hcall r _ _ _ _ this.wf h)
   ·cases h
  ·exact gsteps_same hcall r _ _ _ _ hw h
  ·cases h
theorem gpost_fwd (hcall : CallOk P call) (hid : List Nat) : ∀ (l : List (Bool × GOper)) (fr fr' : Fr) (H H' : GHeap), H.wf → gpost call hid l fr H = some (fr', H') → Fwd H H'
 | [], fr, fr', H, H', hw, h => by cases h; exact Fwd.refl _
 | (e, o) :: r, fr, fr', H, H', hw, h => by
  simp only [gpost] at h
  split at h
  ·split at h
   ·cases h
   ·split at h
    ·rename_i v H1 h1
     have := gdo_fwd hcall hw (gdoE_some h1).1
     exact this.trans (gpost_fwd hcall hid r _ _ _ _ (this.wf hw) h)
    ·cases h
  ·exact gpost_fwd hcall hid r _ _ _ _ hw h
  ·cases h
theorem obj_lt {H : GHeap} (hw : H.wf) {i : Nat} {o : GObj} (h : H.obj i = some o) : i < H.len := (hw.2 i).1 (by rw [h]; rfl)
theorem gany_fwd (hcall : CallOk P call) {hide : List GArg} {pre : List GOper} {post : List (Bool × GOper)} {fr fr' : Fr} {H H' : GHeap} (hw : H.wf) (h : gany call hide pre post fr H = some (fr', H')) : Fwd H H' := by
 unfold gany at h
 generalize hhid : (hidden fr hide).filter (· < H.len) = hid at h
 have hidlt : ∀ i ∈ hid, i < H.len := by
  intro i hi; rw [← hhid] at hi; simpa using (List.mem_filter.1 hi).2
 split at h
 ·rename_i fr1 H1 h1
  have hS := gsteps_same hcall _ _ _ _ _ (ghide_wf hw hid) h1
  have hl0 : (ghide H hid).len = H.len := (ghide_obj hid H 0).2.1
  have hm0 : (ghide H hid).lim = H.lim := (ghide_obj hid H 0).2.2
  have hwb : (gback H H1 hid).wf := gback_wf hS.wf hid fun i hi => by have := hidlt i hi; have := hS.len; omega
  have hobj : ∀ i, i < H.len → (gback H H1 hid).obj i = H.obj i := by
   intro i hi
   rw [(gback_obj hid H H1 i).1]
   have h2 := hS.obj i (by omega)
   rw [(ghide_obj hid H i).1] at h2
   by_cases hih : i ∈ hid
   ·rw [if_pos hih]
    cases ho : H.obj i with
    | none => have := (hw.2 i).2 hi; rw [ho] at this; cases this
    | some o => rfl
   ·rw [if_neg hih] at h2 ⊢; exact h2
  have hF : Fwd H (gback H H1 hid) := by
   refine ⟨by rw [(gback_obj hid H H1 0).2.2, hS.lim, hm0], by rw [(gback_obj hid H H1 0).2.1]; have := hS.len; omega, fun i hi => hobj i (Nat.lt_of_lt_of_le hi hw.1), fun i u hu => ?_, fun _ => hwb⟩
   unfold GHeap.unit at hu ⊢
   cases ho : H.obj i with
   | none => rw [ho] at hu; cases hu
   | some o => rw [hobj i (obj_lt hw ho)]; exact hu
  exact hF.trans (gpost_fwd hcall _ _ _ _ _ _ hwb h)
 ·cases h
theorem gloop_fwd {body : Fr → GHeap → GRes} (hb : ∀ fr H e fr' H', H.wf → body fr H = some (e, fr', H') → Fwd H H') : ∀ (n : Nat) (fr : Fr) (H : GHeap) (e : GExit) (fr' : Fr) (H' : GHeap), H.wf → gloop body n fr H = some (e, fr', H') → Fwd H H'
 | 0, fr, H, e, fr', H', hw, h => by cases h
 | n + 1, fr, H, e, fr', H', hw, h => by
  simp only [gloop] at h
  split at h
  ·rename_i fr1 H1 h1
   have := hb _ _ _ _ _ hw h1
   exact this.trans (gloop_fwd hb n _ _ _ _ _ (this.wf hw) h)
  ·exact hb _ _ _ _ _ hw h
theorem gcode_fwd (hcall : CallOk P call) (m : Nat) : ∀ (c : GCode) (fr : Fr) (H : GHeap) (e : GExit) (fr' : Fr) (H' : GHeap), H.wf → gcode call m c fr H = some (e, fr', H') → Fwd H H' := by
 intro c
 induction c with
 | skip => intro fr H e fr' H' hw h; simp only [gcode] at h; cases h; exact Fwd.refl _
 | exit id => intro fr H e fr' H' hw h; simp only [gcode] at h; cases h; exact Fwd.refl _
 | ret => intro fr H e fr' H' hw h; simp only [gcode] at h; cases h; exact Fwd.refl _
 | bad => intro fr H e fr' H' hw h; simp only [gcode] at h; cases h
 | goto l => intro fr H e fr' H' hw h; simp only [gcode] at h; cases h; exact Fwd.refl _
 | scope a l r iha ihr =>
  intro fr H e fr' H' hw h
  simp only [gcode] at h
  split at h
  ·rename_i h1
   split at h
   ·have hF := iha _ _ _ _ _ hw h1
    split at h
    ·cases h
    ·exact hF.trans (ihr _ _ _ _ _ (hF.wf hw) h)
   ·cases h
  ·exact iha _ _ _ _ _ hw h
 | line l =>
  intro fr H e fr' H' hw h
  simp only [gcode] at h
  split at h
  ·rename_i f1 H1 h1
   cases h
   exact gsteps_fwd (fun _ _ _ _ _ hw h => gdo_fwd hcall hw h) _ _ _ _ _ hw h1
  ·cases h
 | any hide pre post =>
  intro fr H e fr' H' hw h
  simp only [gcode] at h
  split at h
  ·rename_i f1 H1 h1
   cases h
   exact gany_fwd hcall hw h1
  ·cases h
 | seq a b iha ihb =>
  intro fr H e fr' H' hw h
  simp only [gcode] at h
  split at h
  ·rename_i f1 H1 h1
   have := iha _ _ _ _ _ hw h1
   exact this.trans (ihb _ _ _ _ _ (this.wf hw) h)
  ·exact iha _ _ _ _ _ hw h
 | cond c a b iha ihb =>
  intro fr H e fr' H' hw h
  simp only [gcode] at h
  split at h
  ·exact iha _ _ _ _ _ hw h
  ·exact ihb _ _ _ _ _ hw h
  ·cases h
 | block id a iha =>
  intro fr H e fr' H' hw h
  simp only [gcode] at h
  split at h
  ·rename_i h1
   split at h <;> cases h <;> exact iha _ _ _ _ _ hw h1
  ·exact iha _ _ _ _ _ hw h
 | loop a iha =>
  intro fr H e fr' H' hw h
  simp only [gcode] at h
  exact gloop_fwd (fun fr H e fr' H' => iha fr H e fr' H') _ _ _ _ _ _ hw h
theorem cOper_rel (ops : Array Oper) (o : Oper) : GRel P ops o (cOper P ops o) := by
 unfold cOper
 split
 ·rename_i g hg
  refine ⟨rfl, .inl hg, ?_⟩
  cases hc : cOp P o.op with
  | none => exact .inr rfl
  | some g => exact .inl (.inl hc)
 ·exact ⟨rfl, .inr ⟨rfl, rfl⟩, .inr rfl⟩
theorem toM_rel {ops : Array Oper} {b : List (List Nat)} {gs : List GOper} (h : ∀ (j : Nat) (o : Oper), ops[j]? = some o → ∃ g, gs[j]? = some g ∧ GRel P ops o g) (j : Nat) (o : Oper) (ho : ops[j]? = some o) : GRel P ops o ((toM ops b gs).getD j default) := by
 obtain ⟨g, hg, hR⟩ := h j o ho
 have : (toM ops b gs)[j]? = some (match g.op with
  | .app size bytes u s x =>
   if (trace b ops gs gs.length j s).isNone && ((List.range gs.length).any fun i => i != j && !bef b i j && !bef b j i && !pureG (planOk.opOf gs i)) then ⟨g.dst, g.guard, .appM size bytes u s x⟩ else g
  | _ => g) := by
  unfold toM
  rw [List.getElem?_map, List.getElem?_zipIdx, hg]
  simp
  rfl
 rw [List.getD_eq_getElem?_getD, this, Option.getD_some]
 split
 ·rename_i size bytes u s x hop
  split
  ·obtain ⟨h1, h2, h3⟩ := hR
   refine ⟨h1, ?_, ?_⟩
   ·rcases h2 with h2 | ⟨_, h2⟩
    ·exact .inl h2
    ·rw [hop] at h2; cases h2
   ·rcases h3 with h3 | h3
    ·rcases h3 with h3 | ⟨_, _, _, _, _, _, h3⟩
     ·rw [hop] at h3; exact .inl (.inr ⟨_, _, _, _, _, h3, rfl⟩)
     ·rw [hop] at h3; cases h3
    ·rw [hop] at h3; cases h3
  ·exact hR
 ·exact hR
theorem cAny_some {ops : Array Oper} : cAny P ops = .bad ∨ ∃ gs hide pre post, (∀ (j : Nat) (o : Oper), ops[j]? = some o → GRel P ops o (gs.getD j default)) ∧ planOk ops (befores ops) gs pre post = true ∧
  cAny P ops = .any hide (pre.map (gs.getD · default)) (post.map fun j => (early (befores ops) (planOk.opOf gs) pre j, gs.getD j default)) := by
 have hgs : ∀ (j : Nat) (o : Oper), ops[j]? = some o → GRel P ops o ((toM ops (befores ops) (ops.toList.map (cOper P ops))).getD j default) := by
  refine toM_rel fun j o ho => ⟨cOper P ops o, ?_, cOper_rel ops o⟩
  rw [List.getElem?_map, Array.getElem?_toList, ho]; rfl
 unfold cAny
 simp only
 generalize toM ops (befores ops) (ops.toList.map (cOper P ops)) = gs at hgs ⊢
 have hp : ∀ c wr g, planOf ops (befores ops) gs c wr = some g → ∃ hide pre post, planOk ops (befores ops) gs pre post = true ∧ g = .any hide (pre.map (gs.getD · default)) (post.map fun j => (early (befores ops) (planOk.opOf gs) pre j, gs.getD j default)) := by
  intro c wr g h
  unfold planOf at h
  simp only at h
  split at h
  ·rename_i hok
   cases h
   exact ⟨_, _, _, (Bool.and_eq_true _ _ ▸ hok).1, rfl⟩
  ·cases h
 generalize (gs.any fun g => match g.op with
  | .call (.c (.func (.func f) _ _)) _ => gCW f
  | _ => false) = wr
 have key : ∀ x : Option GCode, (∀ g, x = some g → ∃ c wr, planOf ops (befores ops) gs c wr = some g) → x.getD .bad = .bad ∨ ∃ gs hide pre post, (∀ (j : Nat) (o : Oper), ops[j]? = some o → GRel P ops o (gs.getD j default)) ∧ planOk ops (befores ops) gs pre post = true ∧
   x.getD .bad = .any hide (pre.map (gs.getD · default)) (post.map fun j => (early (befores ops) (planOk.opOf gs) pre j, gs.getD j default)) := by
  intro x hx
  cases x with
  | none => exact .inl rfl
  | some g =>
   obtain ⟨c, wr, h1⟩ := hx g rfl
   obtain ⟨hide, pre, post, h2, h3⟩ := hp _ _ _ h1
   exact .inr ⟨gs, hide, pre, post, hgs, h2, h3⟩
 refine key _ fun g hg => ?_
 cases h0 : (if wr = true then planOf ops (befores ops) gs true true else none) with
 | some g' =>
  rw [h0] at hg
  split at h0
  ·exact ⟨true, true, h0.trans (by simpa using hg)⟩
  ·cases h0
 | none =>
  rw [h0] at hg
  cases h1 : planOf ops (befores ops) gs true false with
  | some g' => rw [h1] at hg; exact ⟨true, false, h1.trans (by simpa using hg)⟩
  | none => rw [h1] at hg; exact ⟨false, false, by simpa using hg⟩
def GExit.ex : GExit → Exit
 | .normal => .normal
 | .exit id => .exit id
 | .ret => .ret
 | .goto l => .goto l
theorem Reach.go {base : Nat} {ι : Inj} {H H1 H2 : GHeap} {w w1 : World} {N : Nat} {fr1 : Fr} {a1 : Act} (hF : Fwd H H1) (hF2 : Fwd H1 H2) (hf : ∀ i, H.len ≤ i → i < H2.len → ι i = none) (hR : Reach P base ι H w N fr1 H1 a1 w1) :
  ∃ ι1, HR P base H1.lim ι1 H1.t w1 ∧ FR ι1 fr1 a1 ∧ a1.tmps.size = N ∧ (∀ i, H1.len ≤ i → i < H2.len → ι1 i = none) ∧ ∀ fr2 a2 w2, Reach P base ι1 H1 w1 N fr2 H2 a2 w2 → Reach P base ι H w N fr2 H2 a2 w2 := by
 obtain ⟨ι1, h1, h2, h3, h4, h5, h6⟩ := hR
 refine ⟨ι1, by rw [hF.lim]; exact h3, h1, h2, fresh_sub (base := base) hf hF.len h6, fun fr2 a2 w2 hR => ?_⟩
 exact Reach.trans (fr1 := fr1) (a1 := a1) hF hF2.len h6 h5 h4 hR
theorem gloop_not_normal {body : Fr → GHeap → GRes} : ∀ (n : Nat) (fr : Fr) (H : GHeap) (fr' : Fr) (H' : GHeap), gloop body n fr H ≠ some (.normal, fr', H')
 | 0, _, _, _, _, h => by cases h
 | n + 1, fr, H, fr', H', h => by
  simp only [gloop] at h
  split at h
  ·exact gloop_not_normal n _ _ _ _ h
  ·rename_i hne
   exact hne _ _ h
def CodeOk (P : Program) (N : Nat) (c : Code) (run : Fr → GHeap → GRes) : Prop :=
 ∀ (base : Nat) (ι : Inj) (fr fr' : Fr) (H H' : GHeap) (act : Act) (w : World) (e : GExit), run fr H = some (e, fr', H') → H.wf → HR P base H.lim ι H.t w → FR ι fr act → act.tmps.size = N → (∀ i, H.len ≤ i → i < H'.len → ι i = none) →
  ∀ Q : Exit → Act → World → Prop, (∀ a' w', Reach P base ι H w N fr' H' a' w' → Q e.ex a' w') → c.wp P Q act w
theorem seq_ok (hcall : CallOk P call) {m N : Nat} {a b : Code} {ga gb : GCode} (ha : CodeOk P N a (gcode call m ga)) (hb : CodeOk P N b (gcode call m gb)) : CodeOk P N (.seq a b) (gcode call m (.seq ga gb)) := by
 intro base ι fr fr' H H' act w e hg hw h hfr hN hf Q hQ
 simp only [gcode] at hg
 split at hg
 ·rename_i f1 H1 h1
  have hF1 := gcode_fwd hcall m _ _ _ _ _ _ hw h1
  have hF2 := gcode_fwd hcall m _ _ _ _ _ _ (hF1.wf hw) hg
  refine wp_seq (ha base ι fr f1 H H1 act w .normal h1 hw h hfr hN (fun i h1 h2 => hf i h1 (Nat.lt_of_lt_of_le h2 hF2.len)) _ fun a1 w1 hR => ?_)
  obtain ⟨ι1, g1, g2, g3, g4, g5⟩ := hR.go hF1 hF2 hf
  exact hb base ι1 f1 fr' H1 H' a1 w1 e hg (hF1.wf hw) g1 g2 g3 g4 Q fun a2 w2 hR2 => hQ _ _ (g5 _ _ _ hR2)
 ·rename_i hne
  refine wp_seq (ha base ι fr fr' H H' act w e hg hw h hfr hN hf _ fun a1 w1 hR => ?_)
  cases e with
  | normal => exact absurd hg (hne _ _)
  | exit id => exact hQ _ _ hR
  | ret => exact hQ _ _ hR
  | goto l => exact hQ _ _ hR
def RestOk (P : Program) (call : GCall) (m N : Nat) (c : Code) : Prop := ∀ l g, cRest P c l = some g → ∃ r, findLabel c l = some r ∧ CodeOk P N r (gcode call m g)
theorem rest_none {m N : Nat} {c : Code} (h : ∀ l, cRest P c l = none) : RestOk P call m N c := fun l g e => by rw [h] at e; cases e
theorem restNone : ∀ {c : Code} {l : Nat}, cRest P c l = none → findLabel c l = none := by
 intro c
 induction c with
 | seq a b iha ihb =>
  intro l h
  simp only [cRest] at h
  simp only [findLabel]
  split at h
  ·cases h
  ·rename_i h1
   rw [iha h1]; exact ihb h
 | label l' =>
  intro l h
  simp only [cRest] at h
  simp only [findLabel]
  split at h
  ·cases h
  ·rename_i h1
   rw [if_neg h1]
 | _ => intro l h; rfl
theorem gcode_ok2 (hcall : CallOk P call) (hb : szK P P.rt.byte = some 1) (hmix : P.follows .mixedOrders = true) (m N : Nat) : ∀ (c : Code), dstsOk N c = true → CodeOk P N c (gcode call m (cCode P c)) ∧ RestOk P call m N c := by
 intro c
 induction c with
 | skip =>
  intro _
  refine ⟨?_, rest_none fun l => by simp only [cRest]⟩
  intro base ι fr fr' H H' act w e hg hw h hfr hN hf Q hQ
  simp only [cCode, gcode] at hg
  cases hg
  exact wp_skip (hQ _ _ (Reach.refl h hfr hN))
 | label l =>
  intro _
  refine ⟨?_, fun l2 g e => ?_⟩
  rotate_left
  ·simp only [cRest] at e
   split at e
   ·rename_i hl
    cases e
    refine ⟨.skip, by simp only [findLabel]; rw [if_pos hl], ?_⟩
    intro base ι fr fr' H H' act w e hg hw h hfr hN hf Q hQ
    simp only [gcode] at hg
    cases hg
    exact wp_skip (hQ _ _ (Reach.refl h hfr hN))
   ·cases e
  intro base ι fr fr' H H' act w e hg hw h hfr hN hf Q hQ
  simp only [cCode, gcode] at hg
  cases hg
  exact wp_label (hQ _ _ (Reach.refl h hfr hN))
 | exit id =>
  intro _
  refine ⟨?_, rest_none fun l => by simp only [cRest]⟩
  intro base ι fr fr' H H' act w e hg hw h hfr hN hf Q hQ
  simp only [cCode, gcode] at hg
  cases hg
  exact wp_exit (hQ _ _ (Reach.refl h hfr hN))
 | ret =>
  intro _
  refine ⟨?_, rest_none fun l => by simp only [cRest]⟩
  intro base ι fr fr' H H' act w e hg hw h hfr hN hf Q hQ
  simp only [cCode, gcode] at hg
  cases hg
  exact wp_ret (hQ _ _ (Reach.refl h hfr hN))
 | region id ops draw =>
  intro hd
  refine ⟨?_, rest_none fun l => by simp only [cRest]⟩
  intro base ι fr fr' H H' act w e hg hw h hfr hN hf Q hQ
  have hdst : ∀ o ∈ ops.toList, ∀ d, o.dst = some d → d < N := by
   intro o ho d hod
   simp only [dstsOk, Array.all_eq_true_iff_forall_mem] at hd
   have := hd o (by simpa using ho)
   rw [hod] at this
   simpa using this
  cases draw with
  | false =>
   simp only [cCode, Bool.false_eq_true, if_false, gcode] at hg
   split at hg
   ·rename_i f1 H1 h1
    cases hg
    refine wp_region ?_
    rw [List.range_eq_range']
    exact line_ok hcall hb hdst ops.size 0 (by omega) ι _ _ _ _ act w (by simpa using h1) hw h hfr hN hf hQ
   ·cases hg
  | true =>
   simp only [cCode, if_true] at hg
   rcases cAny_some (P := P) (ops := ops) with hbad | ⟨gs, hide, pre, post, h1, h2, h3⟩
   ·rw [hbad] at hg; simp only [gcode] at hg; cases hg
   ·rw [h3] at hg
    simp only [gcode] at hg
    split at hg
    ·rename_i f1 H1 h4
     cases hg
     exact any_ok hcall hb hmix h1 h2 hdst h4 hw h hfr hN hf hQ
    ·cases hg
 | seq a b iha ihb =>
  intro hd
  simp only [dstsOk, Bool.and_eq_true] at hd
  obtain ⟨ha1, ha2⟩ := iha hd.1
  obtain ⟨hb1, hb2⟩ := ihb hd.2
  refine ⟨?_, fun l g e => ?_⟩
  ·simp only [cCode]
   exact seq_ok hcall ha1 hb1
  ·simp only [cRest] at e
   split at e
   ·rename_i r hr
    cases e
    obtain ⟨rc, k1, k2⟩ := ha2 l r hr
    exact ⟨.seq rc b, by simp only [findLabel]; rw [k1], seq_ok hcall k2 hb1⟩
   ·rename_i hr
    obtain ⟨rc, k1, k2⟩ := hb2 l g e
    refine ⟨rc, ?_, k2⟩
    simp only [findLabel]
    rw [restNone hr]; exact k1
 | cond c a b iha ihb =>
  intro hd
  refine ⟨?_, rest_none fun l => by simp only [cRest]⟩
  intro base ι fr fr' H H' act w e hg hw h hfr hN hf Q hQ
  simp only [dstsOk, Bool.and_eq_true] at hd
  have iha := fun hh => (iha hh).1
  have ihb := fun hh => (ihb hh).1
  simp only [cCode] at hg
  split at hg
  ·rename_i x hx
   simp only [gcode] at hg
   split at hg
   ·rename_i hc
    exact wp_cond_true (cArg_ok hx hc hfr h).bool_inv (iha hd.1 base ι fr fr' H H' act w e hg hw h hfr hN hf Q hQ)
   ·rename_i hc
    exact wp_cond_false (cArg_ok hx hc hfr h).bool_inv (ihb hd.2 base ι fr fr' H H' act w e hg hw h hfr hN hf Q hQ)
   ·cases hg
  ·simp only [gcode] at hg; cases hg
 | block id a iha =>
  intro hd
  refine ⟨?_, rest_none fun l => by simp only [cRest]⟩
  intro base ι fr fr' H H' act w e hg hw h hfr hN hf Q hQ
  simp only [dstsOk] at hd
  have iha := fun hh => (iha hh).1
  simp only [cCode, gcode] at hg
  refine wp_block ?_
  split at hg
  ·rename_i id' f1 H1 h1
   have hcase : H1 = H' ∧ f1 = fr' := by split at hg <;> cases hg <;> exact ⟨rfl, rfl⟩
   obtain ⟨rfl, rfl⟩ := hcase
   refine iha hd base ι _ _ _ _ act w (.exit id') h1 hw h hfr hN hf _ fun a1 w1 hR => ?_
   show (if id' = id then Q .normal a1 w1 else Q (.exit id') a1 w1)
   split at hg
   ·rename_i hid
    cases hg
    rw [if_pos hid]; exact hQ _ _ hR
   ·rename_i hid
    cases hg
    rw [if_neg hid]; exact hQ _ _ hR
  ·rename_i hne
   refine iha hd base ι fr fr' H H' act w e hg hw h hfr hN hf _ fun a1 w1 hR => ?_
   cases e with
   | normal => exact hQ _ _ hR
   | exit id => exact absurd hg (hne _ _ _)
   | ret => exact hQ _ _ hR
   | goto l => exact hQ _ _ hR
 | loop a iha =>
  intro hd
  refine ⟨?_, rest_none fun l => by simp only [cRest]⟩
  intro base ι fr fr' H H' act w e hg hw h hfr hN hf Q hQ
  simp only [dstsOk] at hd
  have iha := fun hh => (iha hh).1
  simp only [cCode, gcode] at hg
  refine wp_loop_rounds m ?_
  have key : ∀ (n : Nat) (base : Nat) (ι : Inj) (fr : Fr) (H : GHeap) (act : Act) (w : World), gloop (gcode call m (cCode P a)) n fr H = some (e, fr', H') → H.wf → HR P base H.lim ι H.t w → FR ι fr act → act.tmps.size = N → (∀ i, H.len ≤ i → i < H'.len → ι i = none) →
    (∀ a' w', Reach P base ι H w N fr' H' a' w' → Q e.ex a' w') → Code.rounds P a Q n act w := by
   intro n
   induction n with
   | zero => intro base ι fr H act w hg; cases hg
   | succ n ih =>
    intro base ι fr H act w hg hw h hfr hN hf hQ
    rw [rounds_succ]
    have hne0 : e ≠ .normal := fun he => by subst he; exact gloop_not_normal _ _ _ _ _ hg
    simp only [gloop] at hg
    split at hg
    ·rename_i f1 H1 h1
     have hF1 := gcode_fwd hcall m _ _ _ _ _ _ hw h1
     have hF2 := gloop_fwd (fun fr H e fr' H' => gcode_fwd hcall m _ fr H e fr' H') _ _ _ _ _ _ (hF1.wf hw) hg
     refine iha hd base ι fr f1 H H1 act w .normal h1 hw h hfr hN (fun i h1 h2 => hf i h1 (Nat.lt_of_lt_of_le h2 hF2.len)) _ fun a1 w1 hR => ?_
     obtain ⟨ι1, g1, g2, g3, g4, g5⟩ := hR.go hF1 hF2 hf
     exact ih base ι1 f1 H1 a1 w1 hg (hF1.wf hw) g1 g2 g3 g4 fun a2 w2 hR2 => hQ _ _ (g5 _ _ _ hR2)
    ·refine iha hd base ι fr fr' H H' act w e hg hw h hfr hN hf _ fun a1 w1 hR => ?_
     cases e with
     | normal => exact absurd rfl hne0
     | exit id => exact hQ _ _ hR
     | ret => exact hQ _ _ hR
     | goto l => exact hQ _ _ hR
  exact key m base ι fr H act w hg hw h hfr hN hf hQ
 | scope a iha =>
  intro hd
  refine ⟨?_, rest_none fun l => by simp only [cRest]⟩
  intro base ι fr fr' H H' act w e hg hw h hfr hN hf Q hQ
  simp only [dstsOk] at hd
  obtain ⟨ha1, ha2⟩ := iha hd
  simp only [cCode] at hg
  split at hg
  ·rename_i l hl
   split at hg
   ·rename_i g hr
    obtain ⟨rc, k1, k2⟩ := ha2 l g hr
    simp only [gcode] at hg
    split at hg
    ·rename_i l' f1 H1 h1
     split at hg
     ·rename_i hll
      subst hll
      split at hg
      ·cases hg
      ·rename_i hne
       have hF1 := gcode_fwd hcall m _ _ _ _ _ _ hw h1
       have hF2 := gcode_fwd hcall m _ _ _ _ _ _ (hF1.wf hw) hg
       refine wp_scope_jumps l' (fun a1 w1 => Reach P base ι H w N f1 H1 a1 w1) (fun _ _ => 0) k1 ?_ ?_
       ·exact ha1 base ι fr f1 H H1 act w (.goto l') h1 hw h hfr hN (fun i q1 q2 => hf i q1 (Nat.lt_of_lt_of_le q2 hF2.len)) _ fun a1 w1 hR => ⟨rfl, hR⟩
       ·intro a1 w1 hR
        obtain ⟨ι1, g1, g2, g3, g4, g5⟩ := hR.go hF1 hF2 hf
        refine k2 base ι1 f1 fr' H1 H' a1 w1 e hg (hF1.wf hw) g1 g2 g3 g4 _ fun a2 w2 hR2 => ?_
        have := hQ _ _ (g5 _ _ _ hR2)
        cases e with
        | normal => exact this
        | exit id => exact this
        | ret => exact this
        | goto l2 => exact absurd hg (hne _ _ _)
     ·cases hg
    ·rename_i hne
     refine wp_scope_jumps l (fun _ _ => False) (fun _ _ => 0) k1 ?_ (fun _ _ hh => hh.elim)
     refine ha1 base ι fr fr' H H' act w e hg hw h hfr hN hf _ fun a1 w1 hR => ?_
     have := hQ _ _ hR
     cases e with
     | normal => exact this
     | exit id => exact this
     | ret => exact this
     | goto l2 => exact absurd hg (hne _ _ _)
   ·simp only [gcode] at hg; cases hg
  ·simp only [gcode] at hg; cases hg
 | goto l =>
  intro _
  refine ⟨?_, rest_none fun l => by simp only [cRest]⟩
  intro base ι fr fr' H H' act w e hg hw h hfr hN hf Q hQ
  simp only [cCode, gcode] at hg
  cases hg
  exact wp_goto (hQ _ _ (Reach.refl h hfr hN))
 | _ =>
  intro hd
  refine ⟨?_, rest_none fun l => by simp only [cRest]⟩
  intro base ι fr fr' H H' act w e hg hw h hfr hN hf Q hQ
  simp only [cCode, gcode] at hg
  cases hg
theorem gcode_ok (hcall : CallOk P call) (hb : szK P P.rt.byte = some 1) (hmix : P.follows .mixedOrders = true) (m N : Nat) (c : Code) (hd : dstsOk N c = true) : CodeOk P N c (gcode call m (cCode P c)) := (gcode_ok2 hcall hb hmix m N c hd).1
end
end Go.Gh
namespace Go.Gh
set_option linter.unusedVariables false
set_option linter.unusedSimpArgs false
open Go.RowKit
section
variable {P : Program} {call : GCall}
def resOf (tmps : Array Value) : ResultVar → Sem Value
 | .tmp t => pure (tmps.getD t undef)
 | .cell a t => do loadVar t (← asAddr (tmps.getD a undef))
theorem results_ok {base lim : Nat} {ι : Inj} {H : GHeap} {w : World} {fr : Fr} {a : Act} (h : HR P base lim ι H.t w) (hfr : FR ι fr a) : ∀ (rs : List ResultVar) (gr : List GRet) (l : List Value), cRets P rs = some gr → gresults fr H gr = some l →
  ∃ l', (rs.mapM (resOf a.tmps)).run P w = .ok l' w ∧ VRs ι l l'
 | [], gr, l, hc, hg => by
  simp only [cRets] at hc
  cases hc
  simp only [gresults] at hg
  cases hg
  exact ⟨[], by simp, .nil⟩
 | .tmp t :: r, gr, l, hc, hg => by
  simp only [cRets, Option.map_eq_some_iff] at hc
  obtain ⟨gr', hc', rfl⟩ := hc
  simp only [gresults] at hg
  split at hg
  ·rename_i v l0 hv hl
   cases hg
   obtain ⟨l', h1, h2⟩ := results_ok h hfr r _ _ hc' hl
   obtain ⟨v', h3, h4⟩ := hfr.2 _ _ hv
   refine ⟨v' :: l', ?_, VRs.cons h4 h2⟩
   have h5 : (resOf a.tmps (.tmp t)).run P w = .ok v' w := by simp [resOf, h3]
   simp [List.mapM_cons, h5, h1]
  ·cases hg
 | .cell x t :: r, gr, l, hc, hg => by
  simp only [cRets] at hc
  split at hc
  ·rename_i k gr' hk hc'
   cases hc
   simp only [gresults] at hg
   split at hg
   ·rename_i v l0 hv hl
    cases hg
    obtain ⟨l', h1, h2⟩ := results_ok h hfr r _ _ hc' hl
    simp only [Option.bind_eq_some_iff] at hv
    obtain ⟨p, hp, hv⟩ := hv
    obtain ⟨p', h3, h4⟩ := hfr.2 _ _ hp
    obtain ⟨v', h5, h6⟩ := gld_ok h hk h4 hv
    have hptr : ∃ b, p' = .pointer (some b) := by
     unfold gld at hv
     split at hv
     ·obtain ⟨l, _, rfl⟩ := h4.ptr_inv; exact ⟨_, rfl⟩
     ·cases hv
    obtain ⟨b, rfl⟩ := hptr
    refine ⟨v' :: l', ?_, VRs.cons h6 h2⟩
    have h7 : (resOf a.tmps (.cell x t)).run P w = .ok v' w := by
     rw [← h5]
     simp [resOf, h3, asAddr, Instr.loadAt, Instr.sureAddr]
    simp [List.mapM_cons, h7, h1]
   ·cases hg
  ·cases hc
theorem one_ok {ι : Inj} {l l' : List Value} (h : VRs ι l l') : VR ι (gone l) (if hh : l'.toArray.size = 1 then l'.toArray[0] else .tuple l'.toArray) := by
 have hl := h.1
 match l, l' with
 | [], [] => exact .tup rfl (by simp)
 | [v], [v'] => simpa using (h.cons_inv.elim fun _ hh => hh.elim fun _ hh => by obtain ⟨e, k, _⟩ := hh; cases e; exact k)
 | v :: u :: r, l' =>
  have : ¬ l'.toArray.size = 1 := by simp only [List.length_cons] at hl; simp; omega
  rw [dif_neg this]
  exact VR.tup_of h
theorem frameOf_get : ∀ (args : List Value) (i : Nat) (fr : Fr) (n : Nat), (frameOf i args fr).get n = if i ≤ n ∧ n < i + args.length then args[n - i]? else fr.get n
 | [], i, fr, n => by simp only [frameOf, List.length_nil, Nat.add_zero]; rw [if_neg (by omega)]
 | v :: r, i, fr, n => by
  simp only [frameOf]
  rw [frameOf_get r (i + 1) (fr.set i v) n]
  by_cases h1 : i + 1 ≤ n ∧ n < i + 1 + r.length
  ·rw [if_pos h1, if_pos (by simp; omega), show n - i = (n - (i + 1)) + 1 by omega]; rfl
  ·rw [if_neg h1]
   by_cases h2 : i = n
   ·subst h2
    rw [if_pos (by simp)]
    simp
   ·rw [Tr.get_set_ne _ _ h2, if_neg (by simp; omega)]
theorem frame_ok {ι : Inj} {args : List Value} {args' : Array Value} (h : VRs ι args args'.toList) (k : Nat) : FR ι (frameOf 0 args .nil) { tmps := args' ++ Array.replicate k undef, defers := [] } := by
 refine ⟨rfl, fun n v hv => ?_⟩
 rw [frameOf_get] at hv
 split at hv
 ·rw [Nat.sub_zero] at hv
  obtain ⟨v', h1, h2⟩ := h.2 n v hv
  refine ⟨v', ?_, h2⟩
  rw [Array.getElem?_toList] at h1
  have := (Array.getElem?_eq_some_iff.1 h1).1
  simp only
  rw [Array.getElem?_append_left this]; exact h1
 ·exact absurd hv (by rw [Tr.get_nil]; simp)
theorem dstsOk_mono {n k : Nat} (hnk : n ≤ k) : ∀ (c : Code), dstsOk n c = true → dstsOk k c = true := by
 intro c
 induction c with
 | region id ops draw =>
  intro h
  simp only [dstsOk, Array.all_eq_true_iff_forall_mem] at h ⊢
  intro o ho
  have := h o ho
  split at this
  ·rename_i d hd; exact decide_eq_true (Nat.lt_of_lt_of_le (of_decide_eq_true this) hnk)
  ·rfl
 | seq a b iha ihb => intro h; simp only [dstsOk, Bool.and_eq_true] at h ⊢; exact ⟨iha h.1, ihb h.2⟩
 | cond c a b iha ihb => intro h; simp only [dstsOk, Bool.and_eq_true] at h ⊢; exact ⟨iha h.1, ihb h.2⟩
 | block id a iha => intro h; simp only [dstsOk] at h ⊢; exact iha h
 | loop a iha => intro h; simp only [dstsOk] at h ⊢; exact iha h
 | scope a iha => intro h; simp only [dstsOk] at h ⊢; exact iha h
 | _ => intro _; rfl
theorem callFunc_enter {f : FuncId} {fn : Func} {c : Code} (hf : P.funcs[f]? = some fn) (hname : (fn.name == "runtime.NumGoroutine") = false) (hb : fn.body = some c) (args : Array Value) (w : World) :
  (callFunc f args).run P w = .ok (.enter f args) w := by
 have h1 : fn.name ≠ "runtime.NumGoroutine" := by simpa using hname
 simp [callFunc, hf, h1, hb]
def ExtOk (P : Program) (f : FuncId) (run : List Value → GHeap → Option (Value × GHeap)) : Prop :=
 (∀ (asl : Array Value) (w : World), (callFunc f asl).run P w = .ok (.enter f asl) w) ∧
 ∀ args H v H', run args H = some (v, H') → (H.wf → Fwd H H') ∧
  ∀ base ι w args', H.wf → HR P base H.lim ι H.t w → VRs ι args args' → (∀ i, H.len ≤ i → i < H'.len → ι i = none) →
   Calls P f args'.toArray w (fun e w' => ∃ v', e = .returned v' ∧ After P base ι H w v H' v' w')
def GOk (P : Program) (G : FuncId → Option GEnt) : Prop :=
 ∀ f, (∀ g, (G f = some (.fn g) ∨ G f = some (.pure g)) → ∃ fn, P.funcs[f]? = some fn ∧ cFun P fn = some g) ∧
  (∀ g, G f = some (.twin g) → ∀ (asl : Array Value) (w : World), (callFunc f asl).run P w = .ok (.enter g asl) w ∧ (callFunc g asl).run P w = .ok (.enter g asl) w) ∧
  (∀ run, G f = some (.lib run) → (∀ (asl : Array Value) (w : World), (callFunc f asl).run P w = .ok (.enter f asl) w) ∧
   ∀ args v, args.all litOk = true → run args = some v → litVal v = true → ∀ w : World, gT P w → Calls P f args.toArray w fun e w' => e = .returned v ∧ Below w.heap.size w w') ∧
  ∀ run, G f = some (.ext run) → ExtOk P f run
theorem cFun_some {fn : Func} {g : GFun} (h : cFun P fn = some g) : ∃ c, (fn.name == "runtime.NumGoroutine") = false ∧ fn.body = some c ∧ dstsOk fn.ntmps c = true ∧ cRets P fn.results.toList = some g.rets ∧ g.body = cCode P c := by
 unfold cFun at h
 split at h
 ·cases h
 ·rename_i hn
  split at h
  ·cases h
  ·rename_i c hc
   split at h
   ·rename_i hd
    simp only [Option.map_eq_some_iff] at h
    obtain ⟨r, hr, rfl⟩ := h
    exact ⟨c, by simpa using hn, hc, hd, hr, rfl⟩
   ·cases h
theorem gbody_fwd (hcall : CallOk P call) {m : Nat} {g : GFun} {args : List Value} {H H' : GHeap} {v : Value} (hw : H.wf) (h : gbody call m g args H = some (v, H')) : Fwd H H' := by
 unfold gbody at h
 split at h
 ·rename_i fr H1 h1
  simp only [Option.map_eq_some_iff, Prod.mk.injEq] at h
  obtain ⟨l, _, _, rfl⟩ := h
  exact gcode_fwd hcall m _ _ _ _ _ _ hw h1
 ·rename_i fr H1 h1
  simp only [Option.map_eq_some_iff, Prod.mk.injEq] at h
  obtain ⟨l, _, _, rfl⟩ := h
  exact gcode_fwd hcall m _ _ _ _ _ _ hw h1
 ·cases h
theorem gbody_ok (hcall : CallOk P call) (hb : szK P P.rt.byte = some 1) (hmix : P.follows .mixedOrders = true) {m : Nat} {f : FuncId} {fn : Func} (hfn : P.funcs[f]? = some fn) {g : GFun} (hg : cFun P fn = some g) {args : List Value} {H H' : GHeap} {v : Value} (h : gbody call m g args H = some (v, H'))
  {base : Nat} {ι : Inj} {w : World} {args' : List Value} (hw : H.wf) (hR : HR P base H.lim ι H.t w) (ha : VRs ι args args') (hf : ∀ i, H.len ≤ i → i < H'.len → ι i = none) :
  Calls P f args'.toArray w fun e w' => ∃ v', e = .returned v' ∧ After P base ι H w v H' v' w' := by
 obtain ⟨c, hn, hbody, hd, hr, hc⟩ := cFun_some hg
 have key : ∀ e fr1 H1, gcode call m (cCode P c) (frameOf 0 args .nil) H = some (e, fr1, H1) → (e = .normal ∨ e = .ret) → (gresults fr1 H1 g.rets).map (fun l => (gone l, H1)) = some (v, H') →
   Calls P f args'.toArray w fun e w' => ∃ v', e = .returned v' ∧ After P base ι H w v H' v' w' := by
  intro e fr1 H1 h1 he hres
  simp only [Option.map_eq_some_iff, Prod.mk.injEq] at hres
  obtain ⟨l, hl, rfl, rfl⟩ := hres
  refine calls_of_wp hfn hbody ?_
  refine gcode_ok hcall hb hmix m _ c (dstsOk_mono (k := (args'.toArray ++ Array.replicate (fn.ntmps - args'.toArray.size) undef).size) (by simp; omega) c hd) base ι _ _ H H1 _ w e h1 hw hR (frame_ok (by simpa using ha) _) rfl hf _ fun a' w' hReach => ?_
  obtain ⟨ι', k1, k2, k3, k4, k5, k6⟩ := hReach
  obtain ⟨l', r1, r2⟩ := results_ok k3 k1 _ _ _ hr hl
  have hrun : (results fn a'.tmps).run P w' = .ok (if hh : l'.toArray.size = 1 then l'.toArray[0] else .tuple l'.toArray) w' := by
   have : (results fn a'.tmps) = (do let vs ← fn.results.mapM (resOf a'.tmps); pure (if h : vs.size = 1 then vs[0] else .tuple vs)) := by
    unfold results
    rfl
   rw [this, Array.mapM_eq_mapM_toList]
   simp [r1]
  have hfin : a'.defers = [] ∧ ∃ v0, (results fn a'.tmps).run P w' = .ok v0 w' ∧ ∃ v', Ending.returned v0 = .returned v' ∧ After P base ι H w (gone l) H1 v' w' :=
   ⟨k1.1, _, hrun, _, rfl, ι', one_ok r2, k3, k4, k5, k6⟩
  rcases he with rfl | rfl
  ·exact hfin
  ·exact hfin
 unfold gbody at h
 rw [hc] at h
 split at h
 ·rename_i fr1 H1 h1
  exact key _ _ _ h1 (.inl rfl) h
 ·rename_i fr1 H1 h1
  exact key _ _ _ h1 (.inr rfl) h
 ·cases h
theorem VR.lit_inv {ι : Inj} {v v' : Value} (h : VR ι v v') (hl : litFlat v = true) : v' = v := by
 cases h with
 | lit _ => rfl
 | _ => simp [litFlat] at hl
theorem VRs.lit_inv {ι : Inj} {l l' : List Value} (h : VRs ι l l') (hl : ∀ v ∈ l, ∀ v', VR ι v v' → v' = v) : l' = l := by
 refine List.ext_getElem h.1.symm fun j h1 h2 => ?_
 obtain ⟨v', k1, k2⟩ := h.2 j l[j] (List.getElem?_eq_getElem h2)
 rw [List.getElem?_eq_getElem h1] at k1
 cases k1
 exact hl _ (List.getElem_mem h2) _ k2
theorem VR.litOk_inv {ι : Inj} {v v' : Value} (h : VR ι v v') (hl : Gh.litOk v = true) : v' = v := by
 cases v <;> first
  | exact h.lit_inv hl
  | skip
 ·rename_i cs
  obtain ⟨ds, rfl, hd⟩ := h.agg_inv
  have : ds.toList = cs.toList := hd.lit_inv fun v hv v' hvv => hvv.lit_inv (by
   simp only [Gh.litOk, Array.all_eq_true_iff_forall_mem] at hl
   exact hl v (by simpa using hv))
  rw [Array.ext' this]
 ·rename_i cs
  obtain ⟨ds, rfl, hd⟩ := h.tup_inv
  simp only [Gh.litOk, Array.isEmpty_iff] at hl
  subst hl
  have : ds.toList = [] := hd.nil_inv
  rw [show ds = #[] from Array.ext' this]
theorem VR.litVal_inv {ι : Inj} {v v' : Value} (h : VR ι v v') (hl : Gh.litVal v = true) : v' = v := by
 cases v <;> first
  | exact h.litOk_inv hl
  | skip
 ·rename_i cs
  obtain ⟨ds, rfl, hd⟩ := h.tup_inv
  have : ds.toList = cs.toList := hd.lit_inv fun v hv v' hvv => hvv.litOk_inv (by
   simp only [Gh.litVal, Array.all_eq_true_iff_forall_mem] at hl
   exact hl v (by simpa using hv))
  rw [Array.ext' this]
theorem VR.litVal {ι : Inj} {v : Value} (hl : Gh.litVal v = true) : VR ι v v := by
 cases v <;> first
  | exact VR.litOk hl
  | skip
 rename_i cs
 simp only [Gh.litVal, Array.all_eq_true] at hl
 exact .tup rfl fun j h1 _ => VR.litOk (hl j h1)
theorem root_ok {base lim : Nat} {ι : Inj} {H : GHeap} {w : World} (h0 : HR P base lim ι H.t w) : ∃ ι0, HR P w.heap.size (gRoot H).lim ι0 (gRoot H).t w ∧ (gRoot H).wf ∧ ∀ i, (gRoot H).len ≤ i → ι0 i = none := by
 refine ⟨fun _ => none, ⟨Nat.le_refl _, fun i l e => (by cases e), fun i l o e => (by cases e), fun i l o j l' o' e => (by cases e), fun g hg => (by simp [gOn] at hg), Nat.le_trans h0.door.1 h0.low, h0.door.2⟩, ⟨Nat.le_refl _, fun i => ?_⟩, fun _ _ => rfl⟩
 simp [gRoot, GHeap.obj, Tr.get_nil]
theorem gcall_ok (hb : szK P P.rt.byte = some 1) (hmix : P.follows .mixedOrders = true) {G : FuncId → Option GEnt} (hG : GOk P G) (m : Nat) : ∀ d, CallOk P (gcall G m d)
 | 0 => by intro f args H v H' h; cases h
 | d + 1 => by
  have ih := gcall_ok hb hmix hG m d
  intro f args H v H' h
  simp only [gcall] at h
  split at h
  ·rename_i g hg
   obtain ⟨fn, h1, h2⟩ := (hG f).1 g (.inl hg)
   refine ⟨fun hw => gbody_fwd ih hw h, f, fun asl w => ?_, fun base ι w args' hw hR ha hf => gbody_ok ih hb hmix h1 h2 h hw hR ha hf⟩
   obtain ⟨c, hn, hbody, _⟩ := cFun_some h2
   exact callFunc_enter h1 hn hbody asl w
  ·rename_i g hg
   obtain ⟨fn, h1, h2⟩ := (hG f).1 g (.inr hg)
   split at h
   ·rename_i hargs
    split at h
    ·rename_i v0 H0 hrun
     split at h
     ·rename_i hlv
      cases h
      refine ⟨fun _ => Fwd.refl _, f, fun asl w => ?_, fun base ι w args' hw hR ha hf => ?_⟩
      ·obtain ⟨c, hn, hbody, _⟩ := cFun_some h2
       exact callFunc_enter h1 hn hbody asl w
      ·obtain ⟨ι0, k1, k2, k3⟩ := root_ok hR
       have hlit : ∀ v ∈ args, litOk v = true := by simpa using hargs
       obtain rfl : args' = args := ha.lit_inv fun v hv v' hvv => hvv.litOk_inv (hlit v hv)
       have ha0 : VRs ι0 args' args' := ⟨rfl, fun j v hv => ⟨v, hv, VR.litOk (hlit v (List.mem_of_getElem? hv))⟩⟩
       refine (gbody_ok ih hb hmix h1 h2 hrun k2 k1 ha0 (fun i hi _ => k3 i hi)).mono fun e w' hh => ?_
       obtain ⟨v', rfl, ι', r1, r2, r3, r4, r5⟩ := hh
       obtain rfl := r1.litVal_inv hlv
       exact ⟨_, rfl, ι, VR.litVal hlv, hR.le r3, r3.mono hR.low, Inj.le.refl _, fun i l e => .inl e⟩
     ·cases h
    ·cases h
   ·cases h
  ·rename_i g hg
   obtain ⟨k1, f2, k2, k3⟩ := ih g args H v H' h
   refine ⟨k1, f2, fun asl w => ?_, k3⟩
   have e := ((hG f).2.1 g hg asl w).2
   rw [k2 asl w] at e
   injection e with e1
   injection e1 with e2
   rw [e2]
   exact ((hG f).2.1 g hg asl w).1
  ·rename_i run hg
   obtain ⟨k1, k2⟩ := (hG f).2.2.1 run hg
   split at h
   ·rename_i hargs
    split at h
    ·rename_i v0 hrun
     split at h
     ·rename_i hlv
      cases h
      refine ⟨fun _ => Fwd.refl _, f, k1, fun base ι w args' hw hR ha hf => ?_⟩
      have hlit : ∀ v ∈ args, litOk v = true := by simpa using hargs
      obtain rfl : args' = args := ha.lit_inv fun v hv v' hvv => hvv.litOk_inv (hlit v hv)
      refine (k2 _ _ hargs hrun hlv w hR.door.2).mono fun e w' hh => ?_
      obtain ⟨rfl, r3⟩ := hh
      exact ⟨_, rfl, ι, VR.litVal hlv, hR.le r3, r3.mono hR.low, Inj.le.refl _, fun i l e => .inl e⟩
     ·cases h
    ·cases h
   ·cases h
  ·rename_i run hg
   obtain ⟨k1, k2⟩ := (hG f).2.2.2 run hg
   obtain ⟨k3, k4⟩ := k2 args H v H' h
   exact ⟨k3, f, k1, k4⟩
  ·cases h
theorem calls_of (hb : szK P P.rt.byte = some 1) (hmix : P.follows .mixedOrders = true) {G : FuncId → Option GEnt} (hG : GOk P G) {m d : Nat} {f : FuncId} {g : GFun} (hf : G f = some (.fn g)) {args : List Value} {H H' : GHeap} {v : Value} (h : gcall G m d f args H = some (v, H'))
  {base : Nat} {ι : Inj} {w : World} {args' : List Value} (hw : H.wf) (hR : HR P base H.lim ι H.t w) (ha : VRs ι args args') (hfr : ∀ i, H.len ≤ i → i < H'.len → ι i = none) :
  Calls P f args'.toArray w fun e w' => ∃ v', e = .returned v' ∧ After P base ι H w v H' v' w' := by
 cases d with
 | zero => cases h
 | succ d =>
  simp only [gcall, hf] at h
  obtain ⟨fn, h1, h2⟩ := (hG f).1 g (.inl hf)
  exact gbody_ok (gcall_ok hb hmix hG m d) hb hmix h1 h2 h hw hR ha hfr
theorem law_of (hb : szK P P.rt.byte = some 1) (hmix : P.follows .mixedOrders = true) {G : FuncId → Option GEnt} (hG : GOk P G) {m d : Nat} {f : FuncId} {g : GFun} (hf : G f = some (.fn g)) {args : List Value} {H H' : GHeap} {b : Bool} (h : gcall G m d f args H = some (.bool b, H'))
  {ι : Inj} {w : World} {args' : List Value} (hw : H.wf) (hR : HR P w.heap.size H.lim ι H.t w) (ha : VRs ι args args') (hfr : ∀ i, H.len ≤ i → ι i = none) :
  Calls P f args'.toArray w fun e w' => e = .returned (.bool b) ∧ Below w.heap.size w w' := by
 refine (calls_of hb hmix hG hf h hw hR ha (fun i hi _ => hfr i hi)).mono fun e w' hh => ?_
 obtain ⟨v', rfl, ι', r1, r2, r3, r4, r5⟩ := hh
 rw [r1.bool_inv]
 exact ⟨rfl, r3⟩
end
end Go.Gh
