/-
  Calls; operations in a row; code.
-/
import Derived.Test.YtfcbdkbdalbjmaaGhN
import Derived.LoopN
namespace Go.Gh
set_option linter.unusedVariables false
set_option linter.unusedSimpArgs false
open Go.RowKit

section
variable {P : Program} {base : Nat} {ι ι' : Inj} {H H' H'' : GHeap} {w w' : World} {fr fr' : Fr} {act : Act}
/-- a ghost call stands for the program's -/
def CallOk (P : Program) (call : GCall) : Prop := ∀ f args H v H', call f args H = some (v, H') → (H.wf → Fwd H H') ∧ ∃ f2, (∀ (as : Array Value) (w : World), (callFunc f as).run P w = .ok (.enter f2 as) w) ∧
  ∀ base ι w args', H.wf → HR P base H.lim ι H.t w → VRs ι args args' → (∀ i, H.len ≤ i → i < H'.len → ι i = none) → Calls P f2 args'.toArray w (fun e w' => ∃ v', e = .returned v' ∧ After P base ι H w v H' v' w')
theorem After.mono_new (h : HR P base H.lim ι H.t w) {v v' : Value} (k : After P base ι H w v H' v' w') : ∃ ι', ι.le ι' ∧ VR ι' v v' ∧ HR P base H.lim ι' H'.t w' := by
  obtain ⟨ι', h1, h2, h3, h4, h5⟩ := k
  exact ⟨ι', h4, h1, h2⟩

/-- the state that code leaves -/
def Reach (P : Program) (base : Nat) (ι : Inj) (H : GHeap) (w : World) (N : Nat) (fr' : Fr) (H' : GHeap) (a' : Act) (w' : World) : Prop :=
  ∃ ι', FR ι' fr' a' ∧ a'.tmps.size = N ∧ HR P base H.lim ι' H'.t w' ∧ Below base w w' ∧ ι.le ι' ∧ ∀ i l, ι' i = some l → ι i = some l ∨ (H.len ≤ i ∧ i < H'.len ∧ base ≤ l.block)
theorem Reach.refl (h : HR P base H.lim ι H.t w) (hfr : FR ι fr act) {N : Nat} (hN : act.tmps.size = N) : Reach P base ι H w N fr H act w :=
  ⟨ι, hfr, hN, h, Below.refl _ _, Inj.le.refl _, fun _ _ e => .inl e⟩
theorem fresh_sub {a b c : Nat} (hf : ∀ i, a ≤ i → i < c → ι i = none) (hab : a ≤ b) (hn : ∀ i l, ι' i = some l → ι i = some l ∨ (a ≤ i ∧ i < b ∧ base ≤ l.block)) : ∀ i, b ≤ i → i < c → ι' i = none := by
  intro i h1 h2
  cases e : ι' i with
  | none => rfl
  | some l =>
    rcases hn i l e with h | ⟨_, h, _⟩
    · rw [hf i (by omega) h2] at h; cases h
    · omega
/-- one thing behind another -/
theorem Reach.trans {N : Nat} {a1 a2 : Act} {w1 w2 : World} {fr1 fr2 : Fr} {H1 H2 : GHeap} (hF : Fwd H H1) (hL : H1.len ≤ H2.len) (hι : ∀ i l, ι' i = some l → ι i = some l ∨ (H.len ≤ i ∧ i < H1.len ∧ base ≤ l.block)) (hle : ι.le ι') (hb : Below base w w1)
    (h : Reach P base ι' H1 w1 N fr2 H2 a2 w2) : Reach P base ι H w N fr2 H2 a2 w2 := by
  obtain ⟨ι2, h1, h2, h3, h4, h5, h6⟩ := h
  refine ⟨ι2, h1, h2, by rw [← hF.lim]; exact h3, hb.trans h4, hle.trans h5, fun i l e => ?_⟩
  rcases h6 i l e with g | ⟨g1, g2, g3⟩
  · rcases hι i l g with g | ⟨g1, g2, g3⟩
    · exact .inl g
    · exact .inr ⟨g1, by omega, g3⟩
  · exact .inr ⟨by have := hF.len; omega, g2, g3⟩

theorem gdo_fwd {call : GCall} (hcall : CallOk P call) (hw : H.wf) {g : GOp} {v : Value} (hd : gdo call fr H g = some (v, H')) : Fwd H H' := by
  unfold gdo at hd
  split at hd
  · simp only [Option.bind_eq_some_iff] at hd
    obtain ⟨⟨f, args⟩, _, hd⟩ := hd
    exact (hcall _ _ _ _ _ hd).1 hw
  · split at hd
    · exact (gopW_fwd hw hd).1
    · simp only [Option.map_eq_some_iff, Prod.mk.injEq] at hd
      obtain ⟨⟨v', new⟩, _, rfl, rfl⟩ := hd
      exact Fwd.add hw _
theorem cOp_call {op : Op} {f : GArg} {xs : List GArg} (h : cOp P op = some (.call f xs)) : ∃ F args ts, op = .call { callee := .value F, args := args, argTypes := ts } ∧ cArg P F = some f ∧ cArgs P args.toList = some xs := by
  cases op with
  | call c =>
    obtain ⟨callee, args, ts⟩ := c
    cases callee with
    | builtin b => exfalso; cases b <;> (simp only [cOp] at h; revert h; (repeat' split) <;> first | contradiction | simp)
    | value F =>
      simp only [cOp] at h
      split at h
      · rename_i f' l hf hl
        cases h
        exact ⟨F, args, ts, rfl, hf, hl⟩
      · cases h
    | invoke r m => simp [cOp] at h
  | _ => exfalso; revert h; simp only [cOp]; (repeat' split) <;> first | contradiction | simp
/-- a call -/
theorem call_wp {call : GCall} (hcall : CallOk P call) {o : Oper} {f : GArg} {xs : List GArg} (hc : cOp P o.op = some (.call f xs)) {g : FuncId} {args : List Value} (ht : gtarget fr f xs = some (g, args)) {v : Value} (hd : call g args H = some (v, H')) (hw : H.wf)
    {lim0 base0 : Nat} {t0 : Tr GObj} (hR0 : HR P base0 lim0 ι t0 w) (h : HR P base H.lim ι H.t w) (hfr : FR ι fr act) (hf : ∀ i, H.len ≤ i → i < H'.len → ι i = none) {K : Act → World → Prop} {Q : Exit → Act → World → Prop}
    (hK : ∀ v' w', After P base ι H w v H' v' w' → K (act.put o.dst v') w') : o.wp P act w K Q := by
  obtain ⟨dst, op, ty, pos, after, guard⟩ := o
  obtain ⟨F, as, ts, rfl, hF, hxs⟩ := cOp_call hc
  unfold gtarget at ht
  split at ht
  · rename_i gg first cap hfv
    simp only [Option.map_eq_some_iff, Prod.mk.injEq] at ht
    obtain ⟨l, hl, rfl, rfl⟩ := ht
    obtain ⟨a', b', hFe, ha, hb⟩ := (cArg_ok hF hfv hfr hR0).func_inv
    have hargs := (ha.append (cArgs_ok hfr hR0 _ _ _ hxs hl)).append hb
    obtain ⟨_, f2, hrun, hsim⟩ := hcall _ _ _ _ _ hd
    unfold Oper.wp
    have he : (execOp act.eval { dst, op := .call { callee := .value F, args := as, argTypes := ts }, type := ty, pos, after, guard }).run P w = .ok (.enter f2 (a' ++ as.map act.eval ++ b')) w := by
      show (do let d ← Deferred.ofValue (act.eval F) (as.map act.eval); invoke d.target d.args : Sem Next).run P w = _
      rw [hFe]
      simp only [Deferred.ofValue, Sem.run_bind, Sem.run_pure, Result.andThen_ok, invoke]
      exact hrun _ _
    rw [he]
    have := hsim base ι w _ hw h hargs hf
    have e1 : (a'.toList ++ as.toList.map act.eval ++ b'.toList).toArray = a' ++ as.map act.eval ++ b' := by apply Array.ext'; simp
    rw [e1] at this
    refine Calls.mono this fun e w' ⟨v', he, hA⟩ => ?_
    subst he
    exact hK v' w' hA
  · cases ht
theorem notCall_run {P : Program} {o : Oper} {g : GOp} (hc : cOp P o.op = some g) (hn : ∀ f xs, g ≠ .call f xs) {v' : Value} {w w' : World} {act : Act} (hr : (execOp act.eval o).run P w = .ok (.value v') w' ∨ ((execOp act.eval o).run P w = .ok .skip w' ∧ v' = undef))
    {K : Act → World → Prop} {Q : Exit → Act → World → Prop} (hK : K (act.put o.dst v') w') : o.wp P act w K Q := by
  unfold Oper.wp
  rcases hr with hr | ⟨hr, rfl⟩ <;> rw [hr] <;> exact hK
theorem gdo_ok {call : GCall} (hcall : CallOk P call) (hb : szK P P.rt.byte = some 1) {o : Oper} {g : GOp} (hc : opRel P o.op g) {v : Value} (hd : gdo call fr H g = some (v, H')) (hw : H.wf) (h : HR P base H.lim ι H.t w) (hfr : FR ι fr act) (hf : ∀ i, H.len ≤ i → i < H'.len → ι i = none)
    {K : Act → World → Prop} {Q : Exit → Act → World → Prop} (hK : ∀ v' w', After P base ι H w v H' v' w' → K (act.put o.dst v') w') : o.wp P act w K Q := by
  unfold gdo at hd
  split at hd
  · rename_i f xs
    have hc' : cOp P o.op = some (.call f xs) := by
      rcases hc with hc | ⟨_, _, _, _, _, _, e⟩
      · exact hc
      · cases e
    simp only [Option.bind_eq_some_iff] at hd
    obtain ⟨⟨g, args⟩, ht, hd⟩ := hd
    exact call_wp hcall hc' ht hd hw h h hfr hf hK
  · rename_i hne
    have hex : WOk P base ι H w v H' (execOp act.eval o) := by
      split at hd
      · rename_i hwr
        have hc' : cOp P o.op = some g := by
          rcases hc with hc | ⟨_, _, _, _, _, _, e⟩
          · exact hc
          · subst e; simp [writes] at hwr
        exact gopW_ok hc' hd h hfr hb (fun hl => hf _ (Nat.le_refl _) hl)
      · simp only [Option.map_eq_some_iff, Prod.mk.injEq] at hd
        obtain ⟨⟨v', new⟩, hM, rfl, rfl⟩ := hd
        have hn : new.isSome = true → ι H.len = none := fun hs => hf _ (Nat.le_refl _) (by cases new <;> simp [GHeap.add] at hs ⊢)
        exact mok_w h (gopM_ok hc hM h hfr hb hn) hn
    obtain ⟨v', w', hr, hA⟩ := hex
    unfold Oper.wp
    rcases hr with hr | ⟨hr, rfl⟩ <;> rw [hr] <;> exact hK _ _ hA

/-! ### operations in a row -/
theorem wants_ok {ops : Array Oper} {o : Oper} {g : Option (Nat × Bool)} (hg : cGuard ops o.guard = some g) (hfr : FR ι fr act) {b : Bool} (hw : gwants fr g = some b) : Region.wanted o (yielded ops act.tmps) = b := by
  unfold cGuard at hg
  split at hg
  · rename_i hn
    cases hg
    cases hw
    simp [Region.wanted, hn]
  · rename_i j c hn
    simp only [Option.map_eq_some_iff] at hg
    obtain ⟨d, hd, rfl⟩ := hg
    simp only [gwants] at hw
    split at hw
    · rename_i x hx
      cases hw
      obtain ⟨v', h1, h2⟩ := hfr.2 d _ hx
      have := h2.bool_inv
      subst this
      simp [Region.wanted, hn, yielded, hd, h1]
    · rename_i y hy hx
      cases hw
      obtain ⟨v', h1, h2⟩ := hfr.2 d _ hx
      have hnb : ∀ q, v' ≠ .bool q := by
        rintro q rfl
        cases h2
        exact hy q rfl
      simp only [Region.wanted, hn, yielded, hd, Option.bind_some, h1]
      cases v' <;> first | rfl | exact absurd rfl (hnb _)
    · cases hw
theorem cOper_some {ops : Array Oper} {o : Oper} {g : GOper} (h : cOper P ops o = g) (hb : g.op ≠ .bad) : cOp P o.op = some g.op ∧ cGuard ops o.guard = some g.guard ∧ g.dst = o.dst := by
  unfold cOper at h
  split at h
  · rename_i g' hg
    subst h
    cases hc : cOp P o.op with
    | none => rw [hc] at hb; exact absurd rfl hb
    | some x => exact ⟨by simp, hg, rfl⟩
  · subst h; exact absurd rfl hb
theorem bad_stuck {call : GCall} {v : Value} {H' : GHeap} (h : gdo call fr H .bad = some (v, H')) : False := by
  simp [gdo, writes, gopM] at h
theorem gsteps_fwd {run : Fr → GHeap → GOp → Option (Value × GHeap)} (hr : ∀ fr H g v H', H.wf → run fr H g = some (v, H') → Fwd H H') : ∀ (l : List GOper) (fr fr' : Fr) (H H' : GHeap), H.wf → gsteps run l fr H = some (fr', H') → Fwd H H'
  | [], fr, fr', H, H', hw, h => by cases h; exact Fwd.refl _
  | o :: r, fr, fr', H, H', hw, h => by
    simp only [gsteps] at h
    split at h
    · split at h
      · rename_i v H1 h1
        have := hr _ _ _ _ _ hw h1
        exact this.trans (gsteps_fwd hr r _ _ _ _ (this.wf hw) h)
      · cases h
    · exact gsteps_fwd hr r _ _ _ _ hw h
    · cases h
theorem line_ok {call : GCall} (hcall : CallOk P call) (hb : szK P P.rt.byte = some 1) {ops : Array Oper} {N : Nat} (hdst : ∀ o ∈ ops.toList, ∀ d, o.dst = some d → d < N) {Q : Exit → Act → World → Prop} :
    ∀ (n k : Nat), k + n = ops.size → ∀ (ι : Inj) (fr fr' : Fr) (H H' : GHeap) (act : Act) (w : World), gsteps (gdo call) ((ops.toList.drop k).map (cOper P ops)) fr H = some (fr', H') → H.wf → HR P base H.lim ι H.t w → FR ι fr act → act.tmps.size = N →
      (∀ i, H.len ≤ i → i < H'.len → ι i = none) → (∀ a' w', Reach P base ι H w N fr' H' a' w' → Q .normal a' w') → wpOps P ops Q (List.range' k n) act w
  | 0, k, hk, ι, fr, fr', H, H', act, w, hs, hw, h, hfr, hN, hf, hQ => by
    have : ops.toList.drop k = [] := by simp; omega
    rw [this] at hs
    cases hs
    exact hQ _ _ (Reach.refl h hfr hN)
  | n + 1, k, hk, ι, fr, fr', H, H', act, w, hs, hw, h, hfr, hN, hf, hQ => by
    have hkl : k < ops.size := by omega
    have hd : ops.toList.drop k = ops[k] :: ops.toList.drop (k + 1) := by
      rw [List.drop_eq_getElem_cons (by simpa using hkl)]; simp
    rw [hd, List.map_cons] at hs
    rw [List.range'_succ, wpOps_cons]
    unfold wpOp
    have hok : ops[k]? = some ops[k] := Array.getElem?_eq_getElem hkl
    simp only [hok]
    have hdd : ∀ d, (ops[k]).dst = some d → d < act.tmps.size := fun d hd => by rw [hN]; exact hdst _ (by simp) d hd
    simp only [gsteps] at hs
    split at hs
    · rename_i hwant
      split at hs
      · rename_i v H1 h1
        have hnb : (cOper P ops ops[k]).op ≠ .bad := fun e => by rw [e] at h1; exact bad_stuck h1
        obtain ⟨c1, c2, c3⟩ := cOper_some rfl hnb
        rw [if_pos (wants_ok c2 hfr hwant)]
        left
        have hF1 := gdo_fwd hcall hw h1
        have hF2 : Fwd H1 H' := gsteps_fwd (fun _ _ _ _ _ hw h => gdo_fwd hcall hw h) _ _ _ _ _ (hF1.wf hw) hs
        refine gdo_ok hcall hb (.inl c1) h1 hw h hfr (fun i h1 h2 => hf i h1 (Nat.lt_of_lt_of_le h2 hF2.len)) fun v' w' hA => ?_
        obtain ⟨ι1, g1, g2, g3, g4, g5⟩ := hA
        rw [c3] at hs
        refine line_ok hcall hb hdst n (k + 1) (by omega) ι1 _ fr' H1 H' _ w' hs (hF1.wf hw) (by rw [hF1.lim]; exact g2) ((hfr.mono g4).put g1 hdd) (by rw [put_size]; exact hN) (fresh_sub hf hF1.len g5) fun a2 w2 hR => ?_
        exact hQ _ _ (Reach.trans (fr1 := fr') (a1 := act) hF1 hF2.len g5 g4 g3 hR)
      · cases hs
    · rename_i hwant
      by_cases hnb : (cOper P ops ops[k]).op = .bad
      · -- an operation that is not covered, and not wanted
        have hg2 : cGuard ops (ops[k]).guard = some (cOper P ops ops[k]).guard ∧ (cOper P ops ops[k]).dst = (ops[k]).dst := by
          unfold cOper at hwant ⊢
          split
          · rename_i g hg; exact ⟨hg, rfl⟩
          · rename_i hg; rw [hg] at hwant; cases hwant
        rw [if_neg (by rw [wants_ok hg2.1 hfr hwant]; simp)]
        rw [hg2.2] at hs
        exact line_ok hcall hb hdst n (k + 1) (by omega) ι _ fr' H H' _ w hs hw h (hfr.put (.tup rfl (by simp)) hdd) (by rw [put_size]; exact hN) hf hQ
      · obtain ⟨c1, c2, c3⟩ := cOper_some rfl hnb
        rw [if_neg (by rw [wants_ok c2 hfr hwant]; simp)]
        rw [c3] at hs
        exact line_ok hcall hb hdst n (k + 1) (by omega) ι _ fr' H H' _ w hs hw h (hfr.put (.tup rfl (by simp)) hdd) (by rw [put_size]; exact hN) hf hQ
    · cases hs
end
end Go.Gh
