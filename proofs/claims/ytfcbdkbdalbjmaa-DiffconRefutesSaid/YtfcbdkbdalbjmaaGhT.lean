/-
  Code, functions and calls do what their ghost runs do.
-/
import Derived.Test.YtfcbdkbdalbjmaaGhS
import Derived.LoopN
import Derived.Laws.Twins
import Derived.Conc.MuLone
namespace Go.Gh
set_option linter.unusedVariables false
set_option linter.unusedSimpArgs false
open Go.RowKit

section
variable {P : Program} {call : GCall}
theorem gsteps_same (hcall : CallOk P call) : ∀ (l : List GOper) (fr fr' : Fr) (H H' : GHeap), H.wf → gsteps (gdoM call) l fr H = some (fr', H') → Same H H'
  | [], fr, fr', H, H', hw, h => by cases h; exact Same.refl hw
  | o :: r, fr, fr', H, H', hw, h => by
    simp only [gsteps] at h
    split at h
    · split at h
      · rename_i v H1 h1
        have := gdoM_same hcall hw h1
        exact this.trans (gsteps_same hcall r _ _ _ _ this.wf h)
      · cases h
    · exact gsteps_same hcall r _ _ _ _ hw h
    · cases h
theorem gpost_fwd (hcall : CallOk P call) (hid : List Nat) : ∀ (l : List (Bool × GOper)) (fr fr' : Fr) (H H' : GHeap), H.wf → gpost call hid l fr H = some (fr', H') → Fwd H H'
  | [], fr, fr', H, H', hw, h => by cases h; exact Fwd.refl _
  | (e, o) :: r, fr, fr', H, H', hw, h => by
    simp only [gpost] at h
    split at h
    · split at h
      · cases h
      · split at h
        · rename_i v H1 h1
          have := gdo_fwd hcall hw h1
          exact this.trans (gpost_fwd hcall hid r _ _ _ _ (this.wf hw) h)
        · cases h
    · exact gpost_fwd hcall hid r _ _ _ _ hw h
    · cases h
theorem obj_lt {H : GHeap} (hw : H.wf) {i : Nat} {o : GObj} (h : H.obj i = some o) : i < H.len := (hw.2 i).1 (by rw [h]; rfl)
theorem gany_fwd (hcall : CallOk P call) {hide : List GArg} {pre : List GOper} {post : List (Bool × GOper)} {fr fr' : Fr} {H H' : GHeap} (hw : H.wf) (h : gany call hide pre post fr H = some (fr', H')) : Fwd H H' := by
  unfold gany at h
  generalize hhid : (hidden fr hide).filter (· < H.len) = hid at h
  have hidlt : ∀ i ∈ hid, i < H.len := by
    intro i hi; rw [← hhid] at hi; simpa using (List.mem_filter.1 hi).2
  split at h
  · rename_i fr1 H1 h1
    have hS := gsteps_same hcall _ _ _ _ _ (ghide_wf hw hid) h1
    have hl0 : (ghide H hid).len = H.len := (ghide_obj hid H 0).2.1
    have hm0 : (ghide H hid).lim = H.lim := (ghide_obj hid H 0).2.2
    have hwb : (gback H H1 hid).wf := gback_wf hS.wf hid fun i hi => by have := hidlt i hi; have := hS.len; omega
    have hobj : ∀ i, i < H.len → (gback H H1 hid).obj i = H.obj i := by
      intro i hi
      rw [(gback_obj hid H H1 i).1]
      have h2 := hS.obj i (by omega)
      rw [(ghide_obj hid H i).1] at h2
      by_cases hih : i ∈ hid
      · rw [if_pos hih]
        cases ho : H.obj i with
        | none => have := (hw.2 i).2 hi; rw [ho] at this; cases this
        | some o => rfl
      · rw [if_neg hih] at h2 ⊢; exact h2
    have hF : Fwd H (gback H H1 hid) := by
      refine ⟨by rw [(gback_obj hid H H1 0).2.2, hS.lim, hm0], by rw [(gback_obj hid H H1 0).2.1]; have := hS.len; omega, fun i hi => hobj i (Nat.lt_of_lt_of_le hi hw.1), fun i u hu => ?_, fun _ => hwb⟩
      unfold GHeap.unit at hu ⊢
      cases ho : H.obj i with
      | none => rw [ho] at hu; cases hu
      | some o => rw [hobj i (obj_lt hw ho)]; exact hu
    exact hF.trans (gpost_fwd hcall _ _ _ _ _ _ hwb h)
  · cases h
theorem gloop_fwd {body : Fr → GHeap → GRes} (hb : ∀ fr H e fr' H', H.wf → body fr H = some (e, fr', H') → Fwd H H') : ∀ (n : Nat) (fr : Fr) (H : GHeap) (e : GExit) (fr' : Fr) (H' : GHeap), H.wf → gloop body n fr H = some (e, fr', H') → Fwd H H'
  | 0, fr, H, e, fr', H', hw, h => by cases h
  | n + 1, fr, H, e, fr', H', hw, h => by
    simp only [gloop] at h
    split at h
    · rename_i fr1 H1 h1
      have := hb _ _ _ _ _ hw h1
      exact this.trans (gloop_fwd hb n _ _ _ _ _ (this.wf hw) h)
    · exact hb _ _ _ _ _ hw h
theorem gcode_fwd (hcall : CallOk P call) (m : Nat) : ∀ (c : GCode) (fr : Fr) (H : GHeap) (e : GExit) (fr' : Fr) (H' : GHeap), H.wf → gcode call m c fr H = some (e, fr', H') → Fwd H H' := by
  intro c
  induction c with
  | skip => intro fr H e fr' H' hw h; simp only [gcode] at h; cases h; exact Fwd.refl _
  | exit id => intro fr H e fr' H' hw h; simp only [gcode] at h; cases h; exact Fwd.refl _
  | ret => intro fr H e fr' H' hw h; simp only [gcode] at h; cases h; exact Fwd.refl _
  | bad => intro fr H e fr' H' hw h; simp only [gcode] at h; cases h
  | line l =>
    intro fr H e fr' H' hw h
    simp only [gcode] at h
    split at h
    · rename_i f1 H1 h1
      cases h
      exact gsteps_fwd (fun _ _ _ _ _ hw h => gdo_fwd hcall hw h) _ _ _ _ _ hw h1
    · cases h
  | any hide pre post =>
    intro fr H e fr' H' hw h
    simp only [gcode] at h
    split at h
    · rename_i f1 H1 h1
      cases h
      exact gany_fwd hcall hw h1
    · cases h
  | seq a b iha ihb =>
    intro fr H e fr' H' hw h
    simp only [gcode] at h
    split at h
    · rename_i f1 H1 h1
      have := iha _ _ _ _ _ hw h1
      exact this.trans (ihb _ _ _ _ _ (this.wf hw) h)
    · exact iha _ _ _ _ _ hw h
  | cond c a b iha ihb =>
    intro fr H e fr' H' hw h
    simp only [gcode] at h
    split at h
    · exact iha _ _ _ _ _ hw h
    · exact ihb _ _ _ _ _ hw h
    · cases h
  | block id a iha =>
    intro fr H e fr' H' hw h
    simp only [gcode] at h
    split at h
    · rename_i h1
      split at h <;> cases h <;> exact iha _ _ _ _ _ hw h1
    · exact iha _ _ _ _ _ hw h
  | loop a iha =>
    intro fr H e fr' H' hw h
    simp only [gcode] at h
    exact gloop_fwd (fun fr H e fr' H' => iha fr H e fr' H') _ _ _ _ _ _ hw h

/-! ### what the compiler gives -/
theorem cOper_rel (ops : Array Oper) (o : Oper) : GRel P ops o (cOper P ops o) := by
  unfold cOper
  split
  · rename_i g hg
    refine ⟨rfl, .inl hg, ?_⟩
    cases hc : cOp P o.op with
    | none => exact .inr rfl
    | some g => exact .inl (.inl hc)
  · exact ⟨rfl, .inr ⟨rfl, rfl⟩, .inr rfl⟩
theorem toM_rel {ops : Array Oper} {b : List (List Nat)} {gs : List GOper} (h : ∀ (j : Nat) (o : Oper), ops[j]? = some o → ∃ g, gs[j]? = some g ∧ GRel P ops o g) (j : Nat) (o : Oper) (ho : ops[j]? = some o) : GRel P ops o ((toM ops b gs).getD j default) := by
  obtain ⟨g, hg, hR⟩ := h j o ho
  have : (toM ops b gs)[j]? = some (match g.op with
    | .app size bytes u s x =>
      if (trace b ops gs gs.length j s).isNone && ((List.range gs.length).any fun i => i != j && !bef b i j && !bef b j i && !pureG (planOk.opOf gs i)) then ⟨g.dst, g.guard, .appM size bytes u s x⟩ else g
    | _ => g) := by
    unfold toM
    rw [List.getElem?_map, List.getElem?_zipIdx, hg]
    simp
    rfl
  rw [List.getD_eq_getElem?_getD, this, Option.getD_some]
  split
  · rename_i size bytes u s x hop
    split
    · obtain ⟨h1, h2, h3⟩ := hR
      refine ⟨h1, ?_, ?_⟩
      · rcases h2 with h2 | ⟨_, h2⟩
        · exact .inl h2
        · rw [hop] at h2; cases h2
      · rcases h3 with h3 | h3
        · rcases h3 with h3 | ⟨_, _, _, _, _, _, h3⟩
          · rw [hop] at h3; exact .inl (.inr ⟨_, _, _, _, _, h3, rfl⟩)
          · rw [hop] at h3; cases h3
        · rw [hop] at h3; cases h3
    · exact hR
  · exact hR
theorem cAny_some {ops : Array Oper} : cAny P ops = .bad ∨ ∃ gs hide pre post, (∀ (j : Nat) (o : Oper), ops[j]? = some o → GRel P ops o (gs.getD j default)) ∧ planOk ops (befores ops) gs pre post = true ∧
    cAny P ops = .any hide (pre.map (gs.getD · default)) (post.map fun j => (early (befores ops) (planOk.opOf gs) pre j, gs.getD j default)) := by
  have hgs : ∀ (j : Nat) (o : Oper), ops[j]? = some o → GRel P ops o ((toM ops (befores ops) (ops.toList.map (cOper P ops))).getD j default) := by
    refine toM_rel fun j o ho => ⟨cOper P ops o, ?_, cOper_rel ops o⟩
    rw [List.getElem?_map, Array.getElem?_toList, ho]; rfl
  unfold cAny
  simp only
  generalize toM ops (befores ops) (ops.toList.map (cOper P ops)) = gs at hgs ⊢
  have hp : ∀ c g, planOf ops (befores ops) gs c = some g → ∃ hide pre post, planOk ops (befores ops) gs pre post = true ∧ g = .any hide (pre.map (gs.getD · default)) (post.map fun j => (early (befores ops) (planOk.opOf gs) pre j, gs.getD j default)) := by
    intro c g h
    unfold planOf at h
    simp only at h
    split at h
    · rename_i hok
      cases h
      exact ⟨_, _, _, hok, rfl⟩
    · cases h
  cases h1 : planOf ops (befores ops) gs true with
  | some g =>
    obtain ⟨hide, pre, post, h2, h3⟩ := hp _ _ h1
    exact .inr ⟨gs, hide, pre, post, hgs, h2, by rw [← h3]; rfl⟩
  | none =>
    cases h1' : planOf ops (befores ops) gs false with
    | some g =>
      obtain ⟨hide, pre, post, h2, h3⟩ := hp _ _ h1'
      exact .inr ⟨gs, hide, pre, post, hgs, h2, by rw [← h3]; rfl⟩
    | none => exact .inl rfl

/-! ### code -/
def GExit.ex : GExit → Exit
  | .normal => .normal
  | .exit id => .exit id
  | .ret => .ret
theorem Reach.go {base : Nat} {ι : Inj} {H H1 H2 : GHeap} {w w1 : World} {N : Nat} {fr1 : Fr} {a1 : Act} (hF : Fwd H H1) (hF2 : Fwd H1 H2) (hf : ∀ i, H.len ≤ i → i < H2.len → ι i = none) (hR : Reach P base ι H w N fr1 H1 a1 w1) :
    ∃ ι1, HR P base H1.lim ι1 H1.t w1 ∧ FR ι1 fr1 a1 ∧ a1.tmps.size = N ∧ (∀ i, H1.len ≤ i → i < H2.len → ι1 i = none) ∧ ∀ fr2 a2 w2, Reach P base ι1 H1 w1 N fr2 H2 a2 w2 → Reach P base ι H w N fr2 H2 a2 w2 := by
  obtain ⟨ι1, h1, h2, h3, h4, h5, h6⟩ := hR
  refine ⟨ι1, by rw [hF.lim]; exact h3, h1, h2, fresh_sub (base := base) hf hF.len h6, fun fr2 a2 w2 hR => ?_⟩
  exact Reach.trans (fr1 := fr1) (a1 := a1) hF hF2.len h6 h5 h4 hR
theorem gloop_not_normal {body : Fr → GHeap → GRes} : ∀ (n : Nat) (fr : Fr) (H : GHeap) (fr' : Fr) (H' : GHeap), gloop body n fr H ≠ some (.normal, fr', H')
  | 0, _, _, _, _, h => by cases h
  | n + 1, fr, H, fr', H', h => by
    simp only [gloop] at h
    split at h
    · exact gloop_not_normal n _ _ _ _ h
    · rename_i hne
      exact hne _ _ h
/-- what holds of each piece of code -/
def CodeOk (P : Program) (N : Nat) (c : Code) (run : Fr → GHeap → GRes) : Prop :=
  ∀ (base : Nat) (ι : Inj) (fr fr' : Fr) (H H' : GHeap) (act : Act) (w : World) (e : GExit), run fr H = some (e, fr', H') → H.wf → HR P base H.lim ι H.t w → FR ι fr act → act.tmps.size = N → (∀ i, H.len ≤ i → i < H'.len → ι i = none) →
    ∀ Q : Exit → Act → World → Prop, (∀ a' w', Reach P base ι H w N fr' H' a' w' → Q e.ex a' w') → c.wp P Q act w
theorem gcode_ok (hcall : CallOk P call) (hb : szK P P.rt.byte = some 1) (hmix : P.follows .mixedOrders = true) (m N : Nat) : ∀ (c : Code), dstsOk N c = true → CodeOk P N c (gcode call m (cCode P c)) := by
  intro c
  induction c with
  | skip =>
    intro _ base ι fr fr' H H' act w e hg hw h hfr hN hf Q hQ
    simp only [cCode, gcode] at hg
    cases hg
    exact wp_skip (hQ _ _ (Reach.refl h hfr hN))
  | label l =>
    intro _ base ι fr fr' H H' act w e hg hw h hfr hN hf Q hQ
    simp only [cCode, gcode] at hg
    cases hg
    exact wp_label (hQ _ _ (Reach.refl h hfr hN))
  | exit id =>
    intro _ base ι fr fr' H H' act w e hg hw h hfr hN hf Q hQ
    simp only [cCode, gcode] at hg
    cases hg
    exact wp_exit (hQ _ _ (Reach.refl h hfr hN))
  | ret =>
    intro _ base ι fr fr' H H' act w e hg hw h hfr hN hf Q hQ
    simp only [cCode, gcode] at hg
    cases hg
    exact wp_ret (hQ _ _ (Reach.refl h hfr hN))
  | region id ops draw =>
    intro hd base ι fr fr' H H' act w e hg hw h hfr hN hf Q hQ
    have hdst : ∀ o ∈ ops.toList, ∀ d, o.dst = some d → d < N := by
      intro o ho d hod
      simp only [dstsOk, Array.all_eq_true_iff_forall_mem] at hd
      have := hd o (by simpa using ho)
      rw [hod] at this
      simpa using this
    cases draw with
    | false =>
      simp only [cCode, Bool.false_eq_true, if_false, gcode] at hg
      split at hg
      · rename_i f1 H1 h1
        cases hg
        refine wp_region ?_
        rw [List.range_eq_range']
        exact line_ok hcall hb hdst ops.size 0 (by omega) ι _ _ _ _ act w (by simpa using h1) hw h hfr hN hf hQ
      · cases hg
    | true =>
      simp only [cCode, if_true] at hg
      rcases cAny_some (P := P) (ops := ops) with hbad | ⟨gs, hide, pre, post, h1, h2, h3⟩
      · rw [hbad] at hg; simp only [gcode] at hg; cases hg
      · rw [h3] at hg
        simp only [gcode] at hg
        split at hg
        · rename_i f1 H1 h4
          cases hg
          exact any_ok hcall hb hmix h1 h2 hdst h4 hw h hfr hN hf hQ
        · cases hg
  | seq a b iha ihb =>
    intro hd base ι fr fr' H H' act w e hg hw h hfr hN hf Q hQ
    simp only [dstsOk, Bool.and_eq_true] at hd
    simp only [cCode, gcode] at hg
    split at hg
    · rename_i f1 H1 h1
      have hF1 := gcode_fwd hcall m _ _ _ _ _ _ hw h1
      have hF2 := gcode_fwd hcall m _ _ _ _ _ _ (hF1.wf hw) hg
      refine wp_seq (iha hd.1 base ι fr f1 H H1 act w .normal h1 hw h hfr hN (fun i h1 h2 => hf i h1 (Nat.lt_of_lt_of_le h2 hF2.len)) _ fun a1 w1 hR => ?_)
      obtain ⟨ι1, g1, g2, g3, g4, g5⟩ := hR.go hF1 hF2 hf
      exact ihb hd.2 base ι1 f1 fr' H1 H' a1 w1 e hg (hF1.wf hw) g1 g2 g3 g4 Q fun a2 w2 hR2 => hQ _ _ (g5 _ _ _ hR2)
    · rename_i hne
      refine wp_seq (iha hd.1 base ι fr fr' H H' act w e hg hw h hfr hN hf _ fun a1 w1 hR => ?_)
      cases e with
      | normal => exact absurd hg (hne _ _)
      | exit id => exact hQ _ _ hR
      | ret => exact hQ _ _ hR
  | cond c a b iha ihb =>
    intro hd base ι fr fr' H H' act w e hg hw h hfr hN hf Q hQ
    simp only [dstsOk, Bool.and_eq_true] at hd
    simp only [cCode] at hg
    split at hg
    · rename_i x hx
      simp only [gcode] at hg
      split at hg
      · rename_i hc
        exact wp_cond_true (cArg_ok hx hc hfr h).bool_inv (iha hd.1 base ι fr fr' H H' act w e hg hw h hfr hN hf Q hQ)
      · rename_i hc
        exact wp_cond_false (cArg_ok hx hc hfr h).bool_inv (ihb hd.2 base ι fr fr' H H' act w e hg hw h hfr hN hf Q hQ)
      · cases hg
    · simp only [gcode] at hg; cases hg
  | block id a iha =>
    intro hd base ι fr fr' H H' act w e hg hw h hfr hN hf Q hQ
    simp only [dstsOk] at hd
    simp only [cCode, gcode] at hg
    refine wp_block ?_
    split at hg
    · rename_i id' f1 H1 h1
      have hcase : H1 = H' ∧ f1 = fr' := by split at hg <;> cases hg <;> exact ⟨rfl, rfl⟩
      obtain ⟨rfl, rfl⟩ := hcase
      refine iha hd base ι _ _ _ _ act w (.exit id') h1 hw h hfr hN hf _ fun a1 w1 hR => ?_
      show (if id' = id then Q .normal a1 w1 else Q (.exit id') a1 w1)
      split at hg
      · rename_i hid
        cases hg
        rw [if_pos hid]; exact hQ _ _ hR
      · rename_i hid
        cases hg
        rw [if_neg hid]; exact hQ _ _ hR
    · rename_i hne
      refine iha hd base ι fr fr' H H' act w e hg hw h hfr hN hf _ fun a1 w1 hR => ?_
      cases e with
      | normal => exact hQ _ _ hR
      | exit id => exact absurd hg (hne _ _ _)
      | ret => exact hQ _ _ hR
  | loop a iha =>
    intro hd base ι fr fr' H H' act w e hg hw h hfr hN hf Q hQ
    simp only [dstsOk] at hd
    simp only [cCode, gcode] at hg
    refine wp_loop_rounds m ?_
    have key : ∀ (n : Nat) (base : Nat) (ι : Inj) (fr : Fr) (H : GHeap) (act : Act) (w : World), gloop (gcode call m (cCode P a)) n fr H = some (e, fr', H') → H.wf → HR P base H.lim ι H.t w → FR ι fr act → act.tmps.size = N → (∀ i, H.len ≤ i → i < H'.len → ι i = none) →
        (∀ a' w', Reach P base ι H w N fr' H' a' w' → Q e.ex a' w') → Code.rounds P a Q n act w := by
      intro n
      induction n with
      | zero => intro base ι fr H act w hg; cases hg
      | succ n ih =>
        intro base ι fr H act w hg hw h hfr hN hf hQ
        rw [rounds_succ]
        have hne0 : e ≠ .normal := fun he => by subst he; exact gloop_not_normal _ _ _ _ _ hg
        simp only [gloop] at hg
        split at hg
        · rename_i f1 H1 h1
          have hF1 := gcode_fwd hcall m _ _ _ _ _ _ hw h1
          have hF2 := gloop_fwd (fun fr H e fr' H' => gcode_fwd hcall m _ fr H e fr' H') _ _ _ _ _ _ (hF1.wf hw) hg
          refine iha hd base ι fr f1 H H1 act w .normal h1 hw h hfr hN (fun i h1 h2 => hf i h1 (Nat.lt_of_lt_of_le h2 hF2.len)) _ fun a1 w1 hR => ?_
          obtain ⟨ι1, g1, g2, g3, g4, g5⟩ := hR.go hF1 hF2 hf
          exact ih base ι1 f1 H1 a1 w1 hg (hF1.wf hw) g1 g2 g3 g4 fun a2 w2 hR2 => hQ _ _ (g5 _ _ _ hR2)
        · refine iha hd base ι fr fr' H H' act w e hg hw h hfr hN hf _ fun a1 w1 hR => ?_
          cases e with
          | normal => exact absurd rfl hne0
          | exit id => exact hQ _ _ hR
          | ret => exact hQ _ _ hR
    exact key m base ι fr H act w hg hw h hfr hN hf hQ
  | _ =>
    intro hd base ι fr fr' H H' act w e hg hw h hfr hN hf Q hQ
    simp only [cCode, gcode] at hg
    cases hg
end
end Go.Gh
