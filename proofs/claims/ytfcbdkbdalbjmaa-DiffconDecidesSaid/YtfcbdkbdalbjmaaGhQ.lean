/-
  A region whose order is open, in whatever order.
-/
import Derived.Test.YtfcbdkbdalbjmaaGhP
namespace Go.Gh
set_option linter.unusedVariables false
set_option linter.unusedSimpArgs false
open Go.RowKit

section
variable {P : Program}
structure Trace (run : Nat → Fr → GHeap → GOp → Option (Value × GHeap)) (l : List GOper) (F : Nat → Fr) (K : Nat → GHeap) (V : Nat → Value) : Prop where
  step : ∀ p o, l[p]? = some o → F (p + 1) = gput (F p) o.dst (V p) ∧ ((gwants (F p) o.guard = some true ∧ run p (F p) (K p) o.op = some (V p, K (p + 1))) ∨ (gwants (F p) o.guard = some false ∧ V p = undef ∧ K (p + 1) = K p))
theorem Trace.cons {run : Nat → Fr → GHeap → GOp → Option (Value × GHeap)} {o : GOper} {l : List GOper} {F : Nat → Fr} {K : Nat → GHeap} {V : Nat → Value} {fr : Fr} {H : GHeap} {v : Value} (h : Trace (fun p => run (p + 1)) l F K V)
    (h0 : F 0 = gput fr o.dst v) (h1 : (gwants fr o.guard = some true ∧ run 0 fr H o.op = some (v, K 0)) ∨ (gwants fr o.guard = some false ∧ v = undef ∧ K 0 = H)) :
    ∃ F' K' V', F' 0 = fr ∧ K' 0 = H ∧ F' (l.length + 1) = F l.length ∧ K' (l.length + 1) = K l.length ∧ Trace run (o :: l) F' K' V' := by
  refine ⟨fun p => match p with | 0 => fr | p + 1 => F p, fun p => match p with | 0 => H | p + 1 => K p, fun p => match p with | 0 => v | p + 1 => V p, rfl, rfl, rfl, rfl, ⟨fun p o' ho => ?_⟩⟩
  cases p with
  | zero => simp at ho; subst ho; exact ⟨h0, h1⟩
  | succ p => exact h.step p o' (by simpa using ho)
theorem gsteps_trace {run : Fr → GHeap → GOp → Option (Value × GHeap)} : ∀ (l : List GOper) (fr fr' : Fr) (H H' : GHeap), gsteps run l fr H = some (fr', H') → ∃ F K V, F 0 = fr ∧ K 0 = H ∧ F l.length = fr' ∧ K l.length = H' ∧ Trace (fun _ => run) l F K V
  | [], fr, fr', H, H', h => by
    cases h
    exact ⟨fun _ => fr, fun _ => H, fun _ => undef, rfl, rfl, rfl, rfl, ⟨fun p o ho => by simp at ho⟩⟩
  | o :: l, fr, fr', H, H', h => by
    simp only [gsteps] at h
    split at h
    · rename_i hwt
      split at h
      · rename_i v H1 h1
        obtain ⟨F, K, V, e1, e2, e3, e4, hT⟩ := gsteps_trace l _ _ _ _ h
        obtain ⟨F', K', V', g1, g2, g3, g4, hT'⟩ := Trace.cons (run := fun _ => run) (o := o) (fr := fr) (H := H) (v := v) hT e1 (.inl ⟨hwt, by rw [e2]; exact h1⟩)
        exact ⟨F', K', V', g1, g2, g3.trans e3, g4.trans e4, hT'⟩
      · cases h
    · rename_i hwt
      obtain ⟨F, K, V, e1, e2, e3, e4, hT⟩ := gsteps_trace l _ _ _ _ h
      obtain ⟨F', K', V', g1, g2, g3, g4, hT'⟩ := Trace.cons (run := fun _ => run) (o := o) (fr := fr) (H := H) (v := undef) hT e1 (.inr ⟨hwt, rfl, e2⟩)
      exact ⟨F', K', V', g1, g2, g3.trans e3, g4.trans e4, hT'⟩
    · cases h
def runPost (call : GCall) (hid : List Nat) (es : List Bool) (p : Nat) (fr : Fr) (H : GHeap) (op : GOp) : Option (Value × GHeap) :=
  if (es.getD p false) && !aims fr hid op then none else gdo call fr H op
theorem gpost_trace {call : GCall} {hid : List Nat} : ∀ (l : List (Bool × GOper)) (fr fr' : Fr) (H H' : GHeap), gpost call hid l fr H = some (fr', H') →
    ∃ F K V, F 0 = fr ∧ K 0 = H ∧ F l.length = fr' ∧ K l.length = H' ∧ Trace (runPost call hid (l.map (·.1))) (l.map (·.2)) F K V
  | [], fr, fr', H, H', h => by
    cases h
    exact ⟨fun _ => fr, fun _ => H, fun _ => undef, rfl, rfl, rfl, rfl, ⟨fun p o ho => by simp at ho⟩⟩
  | (e, o) :: l, fr, fr', H, H', h => by
    have hrun : (fun p => runPost call hid ((e :: l.map (·.1))) (p + 1)) = runPost call hid (l.map (·.1)) := by
      funext p fr H op; simp [runPost]
    simp only [gpost] at h
    split at h
    · rename_i hwt
      split at h
      · cases h
      · rename_i hea
        split at h
        · rename_i v H1 h1
          obtain ⟨F, K, V, e1, e2, e3, e4, hT⟩ := gpost_trace l _ _ _ _ h
          rw [← hrun] at hT
          obtain ⟨F', K', V', g1, g2, g3, g4, hT'⟩ := Trace.cons (o := o) (fr := fr) (H := H) (v := v) hT e1 (.inl ⟨hwt, by rw [e2]; simp only [runPost]; rw [if_neg (by simpa using hea)]; exact h1⟩)
          exact ⟨F', K', V', g1, g2, by simpa using g3.trans (by simpa using e3), by simpa using g4.trans (by simpa using e4), hT'⟩
        · cases h
    · rename_i hwt
      obtain ⟨F, K, V, e1, e2, e3, e4, hT⟩ := gpost_trace l _ _ _ _ h
      rw [← hrun] at hT
      obtain ⟨F', K', V', g1, g2, g3, g4, hT'⟩ := Trace.cons (o := o) (fr := fr) (H := H) (v := undef) hT e1 (.inr ⟨hwt, rfl, e2⟩)
      exact ⟨F', K', V', g1, g2, by simpa using g3.trans (by simpa using e3), by simpa using g4.trans (by simpa using e4), hT'⟩
    · cases h

/-! ### hidden objects -/
theorem ghide_obj : ∀ (l : List Nat) (H : GHeap) (i : Nat), (ghide H l).obj i = (if i ∈ l then (H.obj i).map (fun o => .dead o.unit) else H.obj i) ∧ (ghide H l).len = H.len ∧ (ghide H l).lim = H.lim
  | [], H, i => by simp [ghide]
  | j :: l, H, i => by
    simp only [ghide]
    split
    · rename_i u hu
      obtain ⟨h1, h2, h3⟩ := ghide_obj l (H.put j (.dead u)) i
      refine ⟨?_, h2, h3⟩
      rw [h1, obj_put]
      unfold GHeap.unit at hu
      by_cases hji : j = i
      · subst hji
        cases ho : H.obj j with
        | none => rw [ho] at hu; cases hu
        | some o => rw [ho] at hu; cases hu; simp [GObj.unit]
      · rw [if_neg hji]
        by_cases hil : i ∈ l
        · simp [hil]
        · have : ¬ i ∈ j :: l := by simp; exact ⟨fun e => hji e.symm, hil⟩
          rw [if_neg hil, if_neg this]
    · rename_i hu
      obtain ⟨h1, h2, h3⟩ := ghide_obj l H i
      refine ⟨?_, h2, h3⟩
      rw [h1]
      by_cases hji : j = i
      · subst hji
        unfold GHeap.unit at hu
        simp only [Option.map_eq_none_iff] at hu
        simp [hu]
      · by_cases hil : i ∈ l
        · simp [hil]
        · have : ¬ i ∈ j :: l := by simp; exact ⟨fun e => hji e.symm, hil⟩
          rw [if_neg hil, if_neg this]
theorem gback_obj : ∀ (l : List Nat) (H H' : GHeap) (i : Nat), (gback H H' l).obj i = (if i ∈ l then (H.obj i).orElse (fun _ => H'.obj i) else H'.obj i) ∧ (gback H H' l).len = H'.len ∧ (gback H H' l).lim = H'.lim
  | [], H, H', i => by simp [gback]
  | j :: l, H, H', i => by
    simp only [gback]
    split
    · rename_i o ho
      obtain ⟨h1, h2, h3⟩ := gback_obj l H (H'.put j o) i
      refine ⟨?_, h2, h3⟩
      rw [h1, obj_put]
      by_cases hji : j = i
      · subst hji; simp [ho]
      · rw [if_neg hji]
        by_cases hil : i ∈ l
        · simp [hil]
        · have : ¬ i ∈ j :: l := by simp; exact ⟨fun e => hji e.symm, hil⟩
          rw [if_neg hil, if_neg this]
    · rename_i ho
      obtain ⟨h1, h2, h3⟩ := gback_obj l H H' i
      refine ⟨?_, h2, h3⟩
      rw [h1]
      by_cases hji : j = i
      · subst hji; simp [ho]
      · by_cases hil : i ∈ l
        · simp [hil]
        · have : ¬ i ∈ j :: l := by simp; exact ⟨fun e => hji e.symm, hil⟩
          rw [if_neg hil, if_neg this]
theorem ghide_wf {H : GHeap} (hw : H.wf) (l : List Nat) : (ghide H l).wf := by
  refine ⟨by rw [(ghide_obj l H 0).2.1, (ghide_obj l H 0).2.2]; exact hw.1, fun i => ?_⟩
  rw [(ghide_obj l H i).1, (ghide_obj l H 0).2.1, ← hw.2 i]
  split <;> simp
theorem gback_wf {H H' : GHeap} (hw : H'.wf) (l : List Nat) (hl : ∀ i ∈ l, i < H'.len) : (gback H H' l).wf := by
  refine ⟨by rw [(gback_obj l H H' 0).2.1, (gback_obj l H H' 0).2.2]; exact hw.1, fun i => ?_⟩
  rw [(gback_obj l H H' i).1, (gback_obj l H H' 0).2.1, ← hw.2 i]
  split
  · rename_i hi
    have := (hw.2 i).2 (hl i hi)
    cases H.obj i <;> simp [this]
  · rfl

/-- in 'pre' nothing that is there is written -/
structure Same (H H' : GHeap) : Prop where
  lim : H'.lim = H.lim
  len : H.len ≤ H'.len
  obj : ∀ i, i < H.len → H'.obj i = H.obj i
  wf : H'.wf
theorem Same.refl {H : GHeap} (hw : H.wf) : Same H H := ⟨rfl, Nat.le_refl _, fun _ _ => rfl, hw⟩
theorem Same.trans {A B C : GHeap} (h : Same A B) (k : Same B C) : Same A C := ⟨k.lim.trans h.lim, Nat.le_trans h.len k.len, fun i hi => (k.obj i (Nat.lt_of_lt_of_le hi h.len)).trans (h.obj i hi), k.wf⟩
theorem gdoM_same {call : GCall} (hcall : CallOk P call) {fr : Fr} {H H' : GHeap} (hw : H.wf) {g : GOp} {v : Value} (h : gdoM call fr H g = some (v, H')) : Same H H' := by
  unfold gdoM at h
  split at h
  · simp only [Option.bind_eq_some_iff, Option.map_eq_some_iff, Prod.mk.injEq] at h
    obtain ⟨⟨f, args⟩, _, ⟨v', H1⟩, h1, rfl, rfl⟩ := h
    have hw0 : (⟨H.t, H.len, H.len⟩ : GHeap).wf := ⟨Nat.le_refl _, hw.2⟩
    have := (hcall _ _ _ _ _ h1).1 hw0
    refine ⟨rfl, this.len, fun i hi => this.low i hi, ⟨Nat.le_trans hw.1 this.len, (this.wf hw0).2⟩⟩
  · simp only [Option.map_eq_some_iff, Prod.mk.injEq] at h
    obtain ⟨⟨v', new⟩, _, rfl, rfl⟩ := h
    have := Fwd.add hw new
    refine ⟨this.lim, this.len, fun i hi => ?_, this.wf hw⟩
    cases new with
    | none => rfl
    | some o => rw [obj_add, if_neg (by omega)]
theorem Same.unit {H H' : GHeap} (h : Same H H') (hw : H.wf) {i u : Nat} (e : H.unit i = some u) : H'.unit i = some u := by
  have hi : i < H.len := by
    rw [← hw.2 i]
    unfold GHeap.unit at e
    cases ho : H.obj i with
    | none => rw [ho] at e; cases e
    | some o => rfl
  unfold GHeap.unit at e ⊢
  rw [h.obj i hi]; exact e
theorem nodupB_inj : ∀ (l : List Nat), nodupB l = true → ∀ (p q j : Nat), l[p]? = some j → l[q]? = some j → p = q
  | [], _, p, q, j, h, _ => by simp at h
  | x :: r, hn, p, q, j, h1, h2 => by
    simp only [nodupB, Bool.and_eq_true, Bool.not_eq_true', List.contains_eq_mem, decide_eq_false_iff_not] at hn
    cases p with
    | zero =>
      cases q with
      | zero => rfl
      | succ q => simp at h1 h2; subst h1; exact absurd (List.mem_of_getElem? h2) hn.1
    | succ p =>
      cases q with
      | zero => simp at h1 h2; subst h2; exact absurd (List.mem_of_getElem? h1) hn.1
      | succ q => simp at h1 h2; rw [nodupB_inj r hn.2 p q j h1 h2]

/-- the part of a heap that is alive in another, elder or hidden one -/
theorem HR.sub {base lim : Nat} {ι : Inj} {K T : Tr GObj} {w : World} (h : HR P base lim ι K w) (hs : ∀ i o, T.get i = some o → K.get i = some o ∨ ∃ o1, K.get i = some o1 ∧ o = .dead o1.unit) : HR P base lim ι T w :=
  h.some_ (Inj.le.refl _) (fun _ _ e => e) (fun i l o _ e => hs i o e) (fun i l o e f hv => by
    rcases hs i o f with g | ⟨o1, g1, g2⟩
    · exact h.obj i l o e g
    · subst g2; simp [GObj.live] at hv) h.glob
theorem HR.shut' {base lim : Nat} {ι : Inj} {t : Tr GObj} {w : World} (h : HR P base lim ι t w) (lim' base' : Nat) (hb : base' ≤ w.heap.size) (hn : ∀ i, lim' ≤ i → t.get i = none) : HR P base' lim' ι t w := by
  refine ⟨hb, h.blk, fun i l o e f => ?_, fun a la oa b lb ob e f e' f' hab hl h1 h2 => ?_, h.glob⟩
  · have hi : ¬ lim' ≤ i := fun hh => by rw [hn i hh] at f; cases f
    have := h.obj i l o e f
    cases o with
    | dead u => exact this
    | iter s pos => exact ⟨this.1, this.2.1, this.2.2.1, fun hh => absurd hh hi⟩
    | cells cs u own => exact ⟨this.1, this.2.1, fun _ hh => absurd hh hi⟩
  · rw [hn a hl] at f; cases f
/-- what an operation has made is joined to the whole heap -/
theorem HR.join {base lim base' lim' : Nat} {ι ι' : Inj} {K T : Tr GObj} {w w' : World} (h : HR P base lim ι K w) (k : HR P base' lim' ι' T w') (hl : Le w w') (hle : ι.le ι')
    (hnew : ∀ i l, ι' i = some l → ι i = some l ∨ (ι i = none ∧ lim' ≤ i ∧ w.heap.size ≤ l.block ∧ ∀ o, K.get i = some o → T.get i = some o)) : HR P base lim ι' K w' := by
  have hlow := h.low
  refine ⟨Nat.le_trans h.low hl.size, k.blk, fun i l o e f => ?_, fun a la oa b lb ob e f e' f' hab hlm h1 h2 => ?_, fun g hg => ?_⟩
  · rcases hnew i l e with g | ⟨g1, g2, g3, g4⟩
    · exact (h.obj i l o g f).keep hle (hl.block _ (h.blk i l g))
    · have := k.obj i l o e (g4 o f)
      cases o with
      | dead u => exact this
      | iter s pos => exact ⟨this.1, this.2.1, this.2.2.1, fun _ => by omega⟩
      | cells cs u own =>
        refine ⟨this.1, this.2.1, fun ho _ => ?_⟩
        obtain ⟨q1, q2, q3⟩ := this.2.2 ho g2
        exact ⟨by omega, q2, q3⟩
  · rcases hnew a la e with g | ⟨g1, g2, g3, g4⟩
    · rcases hnew b lb e' with g' | ⟨g1', g2', g3', g4'⟩
      · exact h.sep a la oa b lb ob g f g' f' hab hlm h1 h2
      · have := h.blk a la g; omega
    · rcases hnew b lb e' with g' | ⟨g1', g2', g3', g4'⟩
      · have := h.blk b lb g'; omega
      · exact k.sep a la oa b lb ob e (g4 oa f) e' (g4' ob f') hab g2 h1 h2
  · obtain ⟨l, e, q⟩ := h.glob g hg
    exact ⟨l, hle _ _ e, q⟩
end
end Go.Gh
