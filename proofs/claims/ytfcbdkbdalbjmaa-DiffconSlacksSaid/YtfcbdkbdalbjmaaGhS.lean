/-
  A region whose order is open does what its ghost run does.
-/
import Derived.Test.YtfcbdkbdalbjmaaGhR
namespace Go.Gh
set_option linter.unusedVariables false
set_option linter.unusedSimpArgs false
open Go.RowKit

section
variable {P : Program}
theorem reads_args {g : GOper} {f1 f2 : Fr} (h : ∀ t ∈ planOk.reads g, f1.get t = f2.get t) : (∀ x ∈ planOk.args g.op, x.ev f1 = x.ev f2) ∧ ∀ x ∈ g.guard.toList.map (·.1), f1.get x = f2.get x := by
  constructor
  · intro x hx
    cases x with
    | c v => rfl
    | t n =>
      show f1.get n = f2.get n
      refine h n ?_
      unfold planOk.reads
      exact List.mem_append.2 (.inr (List.mem_filterMap.2 ⟨_, hx, rfl⟩))
  · intro x hx
    refine h x ?_
    unfold planOk.reads
    exact List.mem_append.2 (.inl hx)
theorem frame_at {ops : Array Oper} {pre post : List Nat} {F : Nat → Fr} {V : Nat → Value} {fr : Fr} (hlt : ∀ p j : Nat, (pre ++ post)[p]? = some j → j < ops.size) (hF0 : F 0 = fr) (hF : ∀ (p j : Nat) (o : Oper), (pre ++ post)[p]? = some j → ops[j]? = some o → F (p + 1) = gput (F p) o.dst (V p)) :
    ∀ n, n ≤ (pre ++ post).length → ∀ t, (∃ (q i : Nat) (o : Oper), q < n ∧ (pre ++ post)[q]? = some i ∧ ops[i]? = some o ∧ o.dst = some t ∧ (F n).get t = some (V q)) ∨
      ((∀ (q i : Nat) (o : Oper), q < n → (pre ++ post)[q]? = some i → ops[i]? = some o → o.dst ≠ some t) ∧ (F n).get t = fr.get t) := by
  intro n
  induction n with
  | zero => intro _ t; exact .inr ⟨fun q _ _ hq => by omega, by rw [hF0]⟩
  | succ n ih =>
    intro hn t
    have h1 := List.getElem?_eq_getElem (show n < (pre ++ post).length by omega)
    have h2 := Array.getElem?_eq_getElem (hlt _ _ h1)
    have h3 := hF n _ _ h1 h2
    by_cases hd : (ops[(pre ++ post)[n]]'(hlt _ _ h1)).dst = some t
    · left
      refine ⟨n, _, _, by omega, h1, h2, hd, ?_⟩
      rw [h3, hd]; simp [gput]
    · have hk : (F (n + 1)).get t = (F n).get t := by
        rw [h3]
        cases hdo : (ops[(pre ++ post)[n]]'(hlt _ _ h1)).dst with
        | none => rfl
        | some d =>
          have : d ≠ t := fun e => hd (by rw [hdo, e])
          simp only [gput, Tr.get_set_ne _ _ this]
      rcases ih (by omega) t with ⟨q, i, o, g1, g2, g3, g4, g5⟩ | ⟨g1, g2⟩
      · exact .inl ⟨q, i, o, by omega, g2, g3, g4, hk.trans g5⟩
      · refine .inr ⟨fun q i o hq e1 e2 => ?_, hk.trans g2⟩
        by_cases hqn : q = n
        · subst hqn
          rw [h1] at e1; cases e1
          rw [h2] at e2; cases e2
          exact hd
        · exact g1 q i o (by omega) e1 e2
theorem any_ok {call : GCall} (hcall : CallOk P call) (hbyte : szK P P.rt.byte = some 1) (hmix : P.follows .mixedOrders = true) {base : Nat} {ι : Inj} {H H' : GHeap} {w : World} {fr fr' : Fr} {act : Act} {N : Nat} {ops : Array Oper} {gs : List GOper} {pre post : List Nat} {hide : List GArg} {id : Nat}
    (hgs : ∀ (j : Nat) (o : Oper), ops[j]? = some o → GRel P ops o (gs.getD j default)) (hplan : planOk ops (befores ops) gs pre post = true) (hd : ∀ o ∈ ops.toList, ∀ d, o.dst = some d → d < N)
    (hrun : gany call hide (pre.map (gs.getD · default)) (post.map fun j => (early (befores ops) (planOk.opOf gs) pre j, gs.getD j default)) fr H = some (fr', H'))
    (hw : H.wf) (h : HR P base H.lim ι H.t w) (hfr : FR ι fr act) (hN : act.tmps.size = N) (hf : ∀ i, H.len ≤ i → i < H'.len → ι i = none)
    {Q : Exit → Act → World → Prop} (hQ : ∀ a' w', Reach P base ι H w N fr' H' a' w' → Q .normal a' w') : (Code.region id ops true).wp P Q act w := by
  have hp := plan_of (P := P) hplan
  unfold gany at hrun
  generalize hhid : (hidden fr hide).filter (· < H.len) = hid at hrun
  have hidlt : ∀ i ∈ hid, i < H.len := by
    intro i hi; rw [← hhid] at hi; simpa using (List.mem_filter.1 hi).2
  split at hrun
  case h_2 => cases hrun
  rename_i fr1 H1 hr1
  obtain ⟨F1, K1, V1, a1, a2, a3, a4, T1⟩ := gsteps_trace _ _ _ _ _ hr1
  obtain ⟨F2, K2, V2, b1, b2, b3, b4, T2⟩ := gpost_trace _ _ _ _ _ hrun
  simp only [List.length_map] at a3 a4 b3 b4
  have hpre : ∀ p j : Nat, pre[p]? = some j → (pre.map (gs.getD · default))[p]? = some (gs.getD j default) := fun p j e => by rw [List.getElem?_map, e]; rfl
  have hpost : ∀ q j : Nat, post[q]? = some j → ((post.map fun j => (early (befores ops) (planOk.opOf gs) pre j, gs.getD j default)).map (·.2))[q]? = some (gs.getD j default) := fun q j e => by simp [List.getElem?_map, e]
  have hes : ∀ q j : Nat, post[q]? = some j → ((post.map fun j => (early (befores ops) (planOk.opOf gs) pre j, gs.getD j default)).map (·.1)).getD q false = early (befores ops) (planOk.opOf gs) pre j := fun q j e => by simp [List.getD, List.getElem?_map, e]
  -- the heaps of the first part
  have hstep1 : ∀ p j : Nat, pre[p]? = some j → (K1 p).wf → Same (K1 p) (K1 (p + 1)) := by
    intro p j e hwf
    obtain ⟨_, g | g⟩ := T1.step p _ (hpre p j e)
    · exact gdoM_same hcall hwf g.2
    · rw [g.2.2]; exact Same.refl hwf
  have hwf0 : (K1 0).wf := by rw [a2]; exact ghide_wf hw hid
  have hS1 : ∀ p, p ≤ pre.length → Same (K1 0) (K1 p) := by
    intro p
    induction p with
    | zero => intro _; exact Same.refl hwf0
    | succ p ih =>
      intro hle
      have := ih (by omega)
      exact this.trans (hstep1 p _ (List.getElem?_eq_getElem (by omega)) this.wf)
  have hS12 : ∀ p d, p + d ≤ pre.length → Same (K1 p) (K1 (p + d)) := by
    intro p d
    induction d with
    | zero => intro hle; exact Same.refl (hS1 p (by omega)).wf
    | succ d ih =>
      intro hle
      have := ih (by omega)
      exact this.trans (hstep1 (p + d) _ (List.getElem?_eq_getElem (by omega)) this.wf)
  have hK0 : ∀ i, (K1 0).obj i = (if i ∈ hid then (H.obj i).map (fun o => .dead o.unit) else H.obj i) := fun i => by rw [a2]; exact (ghide_obj hid H i).1
  have hK0len : (K1 0).len = H.len := by rw [a2]; exact (ghide_obj hid H 0).2.1
  have hK0lim : (K1 0).lim = H.lim := by rw [a2]; exact (ghide_obj hid H 0).2.2
  have hB : ∀ i, (K2 0).obj i = (if i ∈ hid then (H.obj i).orElse (fun _ => (K1 pre.length).obj i) else (K1 pre.length).obj i) := fun i => by rw [b2, a4]; exact (gback_obj hid H H1 i).1
  have hBlen : (K2 0).len = (K1 pre.length).len := by rw [b2, a4]; exact (gback_obj hid H H1 0).2.1
  have hBlim : (K2 0).lim = H.lim := by rw [b2, ← a4, (gback_obj hid H _ 0).2.2, (hS1 _ (Nat.le_refl _)).lim, hK0lim]
  have hBwf : (K2 0).wf := by
    rw [b2]
    refine gback_wf ?_ hid fun i hi => ?_
    · rw [← a4]; exact (hS1 _ (Nat.le_refl _)).wf
    · rw [← a4]
      have := (hS1 _ (Nat.le_refl pre.length)).len
      have := hidlt i hi
      omega
  -- the heaps of the second part
  have hstep2 : ∀ q j : Nat, post[q]? = some j → (K2 q).wf → Fwd (K2 q) (K2 (q + 1)) := by
    intro q j e hwf
    obtain ⟨_, g | g⟩ := T2.step q _ (hpost q j e)
    · have := g.2
      unfold runPost at this
      split at this
      · cases this
      · exact gdo_fwd hcall hwf this
    · rw [g.2.2]; exact Fwd.refl _
  have hF2 : ∀ q, q ≤ post.length → Fwd (K2 0) (K2 q) := by
    intro q
    induction q with
    | zero => intro _; exact Fwd.refl _
    | succ q ih =>
      intro hle
      have := ih (by omega)
      exact this.trans (hstep2 q _ (List.getElem?_eq_getElem (by omega)) (this.wf hBwf))
  -- all together
  let F : Nat → Fr := fun p => if p ≤ pre.length then F1 p else F2 (p - pre.length)
  let V : Nat → Value := fun p => if p < pre.length then V1 p else V2 (p - pre.length)
  let LN : Nat → Nat := fun p => if p ≤ pre.length then (K1 p).len else (K2 (p - pre.length)).len
  have hLN1 : ∀ p, p ≤ pre.length → LN p = (K1 p).len := fun p hpl => by simp only [LN, if_pos hpl]
  have hLN2 : ∀ q, LN (pre.length + q) = (K2 q).len := fun q => by
    by_cases hq : q = 0
    · subst hq; simp only [LN, Nat.add_zero, Nat.le_refl, if_true]; exact hBlen.symm
    · simp only [LN]; rw [if_neg (by omega), Nat.add_sub_cancel_left]
  have hFp2 : ∀ q, F (pre.length + q) = F2 q := fun q => by
    by_cases hq : q = 0
    · subst hq; simp only [F, Nat.add_zero, Nat.le_refl, if_true]; rw [b1, a3]
    · simp only [F]; rw [if_neg (by omega), Nat.add_sub_cancel_left]
  have hLget : ∀ p j : Nat, (pre ++ post)[p]? = some j → (p < pre.length ∧ pre[p]? = some j) ∨ (∃ q, p = pre.length + q ∧ post[q]? = some j) := by
    intro p j e
    rcases Nat.lt_or_ge p pre.length with hlt | hge
    · rw [List.getElem?_append_left hlt] at e; exact .inl ⟨hlt, e⟩
    · rw [List.getElem?_append_right hge] at e; exact .inr ⟨p - pre.length, by omega, e⟩
  have hLNmono1 : ∀ p, p < (pre ++ post).length → LN p ≤ LN (p + 1) := by
    intro p hpl
    rcases hLget p _ (List.getElem?_eq_getElem hpl) with ⟨hlt, e⟩ | ⟨q, rfl, e⟩
    · rw [hLN1 p (by omega), hLN1 (p + 1) (by omega)]
      exact (hstep1 p _ e (hS1 p (by omega)).wf).len
    · rw [hLN2 q, show pre.length + q + 1 = pre.length + (q + 1) by omega, hLN2]
      have hq : q ≤ post.length := Nat.le_of_lt (List.getElem?_eq_some_iff.1 e).1
      exact (hstep2 q _ e ((hF2 q hq).wf hBwf)).len
  have hLNmono : ∀ d p, p + d ≤ (pre ++ post).length → LN p ≤ LN (p + d) := by
    intro d
    induction d with
    | zero => intro p _; exact Nat.le_refl _
    | succ d ih => intro p hle; exact Nat.le_trans (ih p (by omega)) (hLNmono1 (p + d) (by omega))
  have hLN0 : LN 0 = H.len := by rw [hLN1 0 (Nat.zero_le _), hK0len]
  have hLNn : LN (pre ++ post).length = H'.len := by rw [List.length_append, hLN2, b4]
  have hFstep : ∀ (p j : Nat) (o : Oper), (pre ++ post)[p]? = some j → ops[j]? = some o → F (p + 1) = gput (F p) o.dst (V p) := by
    intro p j o e ho
    have hdst := (hgs j o ho).1
    rcases hLget p j e with ⟨hlt, e1⟩ | ⟨q, rfl, e1⟩
    · have := (T1.step p _ (hpre p j e1)).1
      rw [hdst] at this
      simp only [F, V, if_pos (Nat.le_of_lt hlt), if_pos (show p + 1 ≤ pre.length by omega), if_pos hlt]
      exact this
    · have := (T2.step q _ (hpost q j e1)).1
      rw [hdst] at this
      rw [show pre.length + q + 1 = pre.length + (q + 1) by omega, hFp2, hFp2]
      simp only [V]
      rw [if_neg (by omega), Nat.add_sub_cancel_left]
      exact this
  have hF0 : F 0 = fr := by simp only [F, Nat.zero_le, if_true]; exact a1
  have hfreshAt : ∀ (S : Nat → Prop) (a : Act) (w' : World) (m : Nat) (ι' : Inj) (fs : Fr), Inv P base ι H w fr N ops pre post K2 V LN S a w' m ι' fs → ∀ p j : Nat, (pre ++ post)[p]? = some j → ¬ S j → ∀ i, LN p ≤ i → i < LN (p + 1) → ι' i = none := by
    intro S a w' m ι' fs hI p j e hS i h1 h2
    have hpl := (List.getElem?_eq_some_iff.1 e).1
    cases hi : ι' i with
    | none => rfl
    | some l =>
      exfalso
      rcases hI.new i l hi with g | ⟨_, q, j', g1, g2, g3, g4⟩
      · rw [hf i] at g
        · cases g
        · have := hLNmono p 0 (by omega); rw [Nat.zero_add, hLN0] at this; omega
        · have := hLNmono ((pre ++ post).length - (p + 1)) (p + 1) (by omega)
          rw [show p + 1 + ((pre ++ post).length - (p + 1)) = (pre ++ post).length by omega, hLNn] at this
          omega
      · have hql := (List.getElem?_eq_some_iff.1 g1).1
        rcases Nat.lt_trichotomy p q with hh | hh | hh
        · have := hLNmono (q - (p + 1)) (p + 1) (by omega)
          rw [show p + 1 + (q - (p + 1)) = q by omega] at this
          omega
        · subst hh; rw [e] at g1; cases g1; exact hS g2
        · have := hLNmono (p - (q + 1)) (q + 1) (by omega)
          rw [show q + 1 + (p - (q + 1)) = p by omega] at this
          omega
  -- what is alive in the first part is alive later on
  have hunits : ∀ p m, p ≤ pre.length → m ≤ post.length → ∀ i u, (K1 p).unit i = some u → (K2 m).unit i = some u := by
    intro p m hpl hml i u hu
    refine (hF2 m hml).unit i u ?_
    have hobj : (K1 p).obj i ≠ none := fun e => by unfold GHeap.unit at hu; rw [e] at hu; cases hu
    have hlt : i < (K1 p).len := by
      rw [← (hS1 p hpl).wf.2 i]
      cases ho : (K1 p).obj i with
      | none => exact absurd ho hobj
      | some o => rfl
    have hs := hS12 p (pre.length - p) (by omega)
    rw [show p + (pre.length - p) = pre.length by omega] at hs
    have hn : (K1 pre.length).obj i = (K1 p).obj i := hs.obj i hlt
    unfold GHeap.unit at hu ⊢
    rw [hB i]
    by_cases hi : i ∈ hid
    · rw [if_pos hi]
      have hil := hidlt i hi
      have e0 : (K1 p).obj i = (K1 0).obj i := (hS1 p hpl).obj i (by rw [hK0len]; exact hil)
      rw [e0, hK0 i, if_pos hi] at hu
      cases ho : H.obj i with
      | none => rw [ho] at hu; cases hu
      | some o => rw [ho] at hu; simpa [GObj.unit] using hu
    · rw [if_neg hi, hn]; exact hu
  have hsub : ∀ (S : Nat → Prop) (p m j : Nat), pre[p]? = some j → pureG (planOk.opOf gs j) = false → ¬ S j → m ≤ post.length → (∀ q i, post[q]? = some i → (S i ↔ q < m)) → (∀ j, S j → ∀ i ∈ (befores ops).getD j [], S i) →
      ∀ p', p' ≤ p + 1 → ∀ i o, (K1 p').t.get i = some o → (K2 m).t.get i = some o ∨ ∃ o1, (K2 m).t.get i = some o1 ∧ o = .dead o1.unit ∧ i < H.len := by
    intro S p m j hpj hnp hS hml hpm hcl p' hp' i o ho
    have hpl : p < pre.length := (List.getElem?_eq_some_iff.1 hpj).1
    have hp'l : p' ≤ pre.length := by omega
    have hlt : i < (K1 p').len := by
      rw [← (hS1 p' hp'l).wf.2 i]
      show ((K1 p').t.get i).isSome = true
      rw [ho]; rfl
    -- behind 'post' so far: what is not hidden is as it was
    have hspare : ∀ q, q ≤ m → ∀ i, i ∉ hid → i < (K2 0).len → (K2 q).obj i = (K2 0).obj i := by
      intro q
      induction q with
      | zero => intro _ i _ _; rfl
      | succ q ih =>
        intro hq i hi hil
        have hql : q < post.length := by omega
        have hge := List.getElem?_eq_getElem hql
        have hSq : S (post[q]) := (hpm q _ hge).2 (by omega)
        refine Eq.trans ?_ (ih (by omega) i hi hil)
        have hKq := hF2 q (by omega)
        obtain ⟨_, g | g⟩ := T2.step q _ (hpost q _ hge)
        · have hgd := g.2
          unfold runPost at hgd
          rw [hes q _ hge] at hgd
          split at hgd
          · cases hgd
          · rename_i hea
            have hcase : pureG (planOk.opOf gs post[q]) = true ∨ (Gh.early (befores ops) (planOk.opOf gs) pre post[q] = true) := by
              cases he : Gh.early (befores ops) (planOk.opOf gs) pre post[q] with
              | true => exact .inr rfl
              | false =>
                left
                unfold Gh.early at he
                cases hpu : pureG (planOk.opOf gs post[q]) with
                | true => rfl
                | false =>
                  exfalso
                  rw [hpu] at he
                  simp only [Bool.not_false, Bool.true_and, Bool.not_eq_false', List.all_eq_true] at he
                  have := he j (List.mem_of_getElem? hpj)
                  rw [hnp] at this
                  simp only [Bool.or_false] at this
                  exact hS (hcl _ hSq j (by simpa [bef] using this))
            rcases hcase with hpu | he
            · -- pure
              have hgp : pureG (gs.getD post[q] default).op = true := hpu
              have : ∃ new, gopM (F2 q) (K2 q) (gs.getD post[q] default).op = some (V2 q, new) ∧ K2 (q + 1) = (K2 q).add new := by
                unfold gdo at hgd
                split at hgd
                · rename_i hh; rw [hh] at hgp; simp [pureG] at hgp
                · split at hgd
                  · rename_i hwr
                    exfalso
                    revert hgp hwr
                    cases (gs.getD post[q] default).op <;> simp [pureG, writes]
                  · simp only [Option.map_eq_some_iff, Prod.mk.injEq] at hgd
                    obtain ⟨⟨v, new⟩, h1, rfl, h2⟩ := hgd
                    exact ⟨new, h1, h2.symm⟩
              obtain ⟨new, h1, h2⟩ := this
              obtain ⟨rfl, _⟩ := pure_any (H' := K2 q) hgp h1 (fun _ _ e => e)
              rw [h2]; rfl
            · have hwr := hp.early q _ hge he
              have haim : aims (F2 q) hid (gs.getD post[q] default).op = true := by
                cases ha : aims (F2 q) hid (gs.getD post[q] default).op with
                | true => rfl
                | false => rw [he, ha] at hea; simp at hea
              have hgw : gopW (F2 q) (K2 q) (gs.getD post[q] default).op = some (V2 q, K2 (q + 1)) := by
                unfold gdo at hgd
                split at hgd
                · rename_i hh
                  have : writes (gs.getD post[q] default).op = true := hwr
                  rw [hh] at this; simp [writes] at this
                · rw [if_pos (show writes (gs.getD post[q] default).op = true from hwr)] at hgd
                  exact hgd
              refine (gopW_fwd (hKq.wf hBwf) hgw).2 hid (fun x t hx hxt k hk => ?_) i (by have := hKq.len; omega) hi
              unfold aims at haim
              rw [hx] at haim
              simp only [Option.bind_some, hxt, List.all_eq_true] at haim
              simpa using haim k hk
        · rw [g.2.2]
    by_cases hi : i ∈ hid
    · right
      have hil := hidlt i hi
      have e0 : (K1 p').obj i = (K1 0).obj i := (hS1 p' hp'l).obj i (by rw [hK0len]; exact hil)
      have ho' : (K1 p').obj i = some o := ho
      have hu : (K1 p').unit i = some o.unit := by unfold GHeap.unit; rw [ho']; rfl
      have hu2 := hunits p' m hp'l hml i _ hu
      rw [e0, hK0 i, if_pos hi] at ho'
      cases hoH : H.obj i with
      | none => rw [hoH] at ho'; cases ho'
      | some oH =>
        rw [hoH] at ho'
        simp only [Option.map_some, Option.some.injEq] at ho'
        unfold GHeap.unit at hu2
        cases hoM : (K2 m).obj i with
        | none => rw [hoM] at hu2; cases hu2
        | some oM =>
          rw [hoM] at hu2
          simp only [Option.map_some, Option.some.injEq] at hu2
          refine ⟨oM, hoM, ?_, hil⟩
          rw [hu2, ← ho']; rfl
    · left
      have hs := hS12 p' (pre.length - p') (by omega)
      rw [show p' + (pre.length - p') = pre.length by omega] at hs
      have hlt2 : i < (K2 0).len := by rw [hBlen]; exact Nat.lt_of_lt_of_le hlt hs.len
      have : (K2 m).obj i = (K1 p').obj i := by
        rw [hspare m (Nat.le_refl _) i hi hlt2, hB i, if_neg hi]
        exact hs.obj i hlt
      show (K2 m).obj i = some o
      rw [this]; exact ho
  -- the rounds
  have hlen0 : ∀ q, q ≤ post.length → (K2 q).lim = H.lim := fun q hq => (hF2 q hq).lim.trans hBlim
  have hlow : H.lim ≤ H.len := hw.1
  have hHlenLN : ∀ p, p ≤ (pre ++ post).length → H.len ≤ LN p := fun p hpl => by
    have := hLNmono p 0 (by omega)
    rw [Nat.zero_add, hLN0] at this; exact this
  have hinit : Inv P base ι H w fr N ops pre post K2 V LN (fun j => (Array.replicate ops.size false).getD j false = true) act w.drew 0 ι fr := by
    have hno : ∀ j, ¬ (Array.replicate ops.size false).getD j false = true := by
      intro j hj
      rw [Array.getD_eq_getD_getElem?, Array.getElem?_replicate] at hj
      split at hj <;> simp at hj
    refine ⟨Inj.le.refl _, fun i l e => .inl e, ?_, (Below.refl _ _).drew, hfr, hN, fun t p j _ _ hj => absurd hj (hno j), fun _ _ => rfl, Nat.zero_le _, fun q j _ => ⟨fun hj => absurd hj (hno j), fun hh => by omega⟩⟩
    have hobj : ∀ i l o, ι i = some l → (K2 0).t.get i = some o → H.t.get i = some o := by
      intro i l o e ho
      have hlt : i < (K2 0).len := (hBwf.2 i).1 (by show ((K2 0).t.get i).isSome = true; rw [ho]; rfl)
      have hltH : i < H.len := by
        rcases Nat.lt_or_ge i H.len with hh | hh
        · exact hh
        · have h1 := hLN2 0
          have h2 := hLNmono post.length pre.length (by rw [List.length_append]; omega)
          rw [Nat.add_zero] at h1
          rw [h1, ← List.length_append, hLNn] at h2
          rw [hf i hh (by omega)] at e; cases e
      have ho' : (K2 0).obj i = some o := ho
      have hK : (K1 pre.length).obj i = (K1 0).obj i := (hS1 _ (Nat.le_refl _)).obj i (by rw [hK0len]; exact hltH)
      rw [hB i] at ho'
      by_cases hi : i ∈ hid
      · rw [if_pos hi] at ho'
        have hs : (H.obj i).isSome = true := (hw.2 i).2 hltH
        cases hoH : H.obj i with
        | none => rw [hoH] at hs; cases hs
        | some oH => rw [hoH] at ho'; cases ho'; exact hoH
      · rw [if_neg hi, hK, hK0 i, if_neg hi] at ho'
        exact ho'
    exact HR.le (HR.some_ h (Inj.le.refl _) (fun _ _ e => e) (fun i l o e ho => .inl (hobj i l o e ho)) (fun i l o e ho hv => h.obj i l o e (hobj i l o e ho)) h.glob) (Le.drew w)
  refine wp_region_any hmix (any_rounds (act0 := act) hp ?_ hd ?_ ops.size _ act w.drew 0 ι fr (by simp) (Nat.le_trans (List.countP_le_length) (by simp)) (fun j o _ hj => ?_) hinit)
  · intro S a w' m ι' fs hI hcl p j o hpj ho hS hdep K hK
    have hag := hI.agree (gs := gs) (F := F) hp hF0 hFstep hcl hpj hS hdep
    obtain ⟨hdst, hgd, hop⟩ := hgs j o ho
    have hdd : ∀ d, o.dst = some d → d < a.tmps.size := fun d hd' => by rw [hI.sz]; exact hd _ (List.mem_of_getElem? (by rw [Array.getElem?_toList]; exact ho)) d hd'
    obtain ⟨hra, hrg⟩ := reads_args hag
    have hwant : ∀ b, gwants (F p) (gs.getD j default).guard = some b → (gs.getD j default).op ≠ .bad ∨ b = false → Region.wanted o (yielded ops a.tmps) = b := by
      intro b hb hnb
      rw [← gwants_agree hrg] at hb
      rcases hgd with hgd | ⟨hgn, hbad⟩
      · exact wants_ok hgd hI.frame hb
      · rw [hgn] at hb
        cases hb
        rcases hnb with hnb | hnb
        · exact absurd hbad hnb
        · cases hnb
    have hskip : ∀ m', V p = undef → gwants (F p) (gs.getD j default).guard = some false → Cut post (fun i => S i ∨ i = j) m' → HR P base H.lim ι' (K2 m').t w' → wpOp P ops Q j K a w' := by
      intro m' hv hwt hcut hR
      unfold wpOp
      simp only [ho]
      rw [if_neg (by rw [hwant false hwt (.inr rfl)]; simp)]
      refine hK undef w' m' ⟨ι', Inj.le.refl _, by rw [hv]; exact .tup rfl (by simp), hR, Below.refl _ _, fun i l e => .inl e⟩ hcut
    have hgo : (gs.getD j default).op ≠ .bad → gwants (F p) (gs.getD j default).guard = some true → ∀ m', Cut post (fun i => S i ∨ i = j) m' →
        (∀ K' : Act → World → Prop, (∀ v' w'', StepOk P base H K2 LN p m' (V p) ι' w' v' w'' → K' (a.put o.dst v') w'') → o.wp P a w' K' Q) → wpOp P ops Q j K a w' := by
      intro hnb hwt m' hcut hs
      unfold wpOp
      simp only [ho]
      rw [if_pos (hwant true hwt (.inl hnb))]
      exact .inl (hs K fun v' w'' h1 => hK v' w'' m' h1 hcut)
    rcases hLget p j hpj with ⟨hlt, e1⟩ | ⟨q, rfl, e1⟩
    · have hVp : V p = V1 p := by simp only [V, if_pos hlt]
      have hFp : F p = F1 p := by simp only [F, if_pos (Nat.le_of_lt hlt)]
      have hcut : Cut post (fun i => S i ∨ i = j) m := by
        refine ⟨hI.post.1, fun q i hq => ⟨fun hh => ?_, fun hh => .inl ((hI.post.2 q i hq).2 hh)⟩⟩
        rcases hh with hh | rfl
        · exact (hI.post.2 q i hq).1 hh
        · exfalso
          have h1 : (pre ++ post)[pre.length + q]? = some i := by rw [List.getElem?_append_right (by omega), Nat.add_sub_cancel_left]; exact hq
          have := hp.nodup _ _ _ hpj h1
          omega
      have hml := hI.post.1
      obtain ⟨_, g | g⟩ := T1.step p _ (hpre p j e1)
      · obtain ⟨g1, g2⟩ := g
        have hnb : (gs.getD j default).op ≠ .bad := fun e => by
          rw [e] at g2; simp [gdoM, gopM] at g2
        refine hgo hnb (by rw [hFp]; exact g1) m hcut fun K' hK' => ?_
        rw [← hFp, ← gdoM_agree hra] at g2
        have hor : opRel P o.op (gs.getD j default).op := hop.resolve_right hnb
        have hfresh := hfreshAt S a w' m ι' fs hI p j hpj hS
        rw [hLN1 p (Nat.le_of_lt hlt), hLN1 (p + 1) (by omega)] at hfresh
        have hwfp := (hS1 p (Nat.le_of_lt hlt)).wf
        by_cases hpu : pureG (planOk.opOf gs j) = true
        · have hpu' : pureG (gs.getD j default).op = true := hpu
          have : ∃ new, gopM fs (K1 p) (gs.getD j default).op = some (V1 p, new) := by
            unfold gdoM at g2
            split at g2
            · rename_i hh; rw [hh] at hpu'; simp [pureG] at hpu'
            · simp only [Option.map_eq_some_iff, Prod.mk.injEq] at g2
              obtain ⟨⟨v, new⟩, h1, rfl, h2⟩ := g2
              exact ⟨new, h1⟩
          obtain ⟨new, h1⟩ := this
          obtain ⟨_, h2⟩ := pure_any (H' := K2 m) hpu' h1 (hunits p m (Nat.le_of_lt hlt) hml)
          have hR : HR P base (K2 m).lim ι' (K2 m).t w' := by rw [hlen0 m hml]; exact hI.hr
          obtain ⟨v', ι'', w'', r1, r2, r3, r4, r5, _⟩ := gopM_ok hor h2 hR hI.frame hbyte (by simp)
          obtain rfl := r5 rfl
          unfold Oper.wp
          rw [r1]
          refine hK' v' w'' ⟨ι'', Inj.le.refl _, by rw [hVp]; exact r3, by rw [← hlen0 m hml]; exact r4, r2.mono hI.hr.low, fun i l e => .inl e⟩
        · have hnp : pureG (planOk.opOf gs j) = false := by simpa using hpu
          have hsb := hsub S p m j e1 hnp hS hml hI.post.2 hcl
          have hsub' : HR P base H.lim ι' (K1 p).t w' := hI.hr.sub fun i o hi => by
            rcases hsb p (by omega) i o hi with g | ⟨o1, g1, g2, _⟩
            · exact .inl g
            · exact .inr ⟨o1, g1, g2⟩
          have hback : ∀ i, H.len ≤ i → i < (K1 (p + 1)).len → ∀ o, (K2 m).t.get i = some o → (K1 (p + 1)).t.get i = some o := by
            intro i hi1 hi2 o ho2
            have hwf1 := (hS1 (p + 1) (by omega)).wf
            have : ((K1 (p + 1)).obj i).isSome = true := (hwf1.2 i).2 hi2
            cases hoi : (K1 (p + 1)).obj i with
            | none => rw [hoi] at this; cases this
            | some o' =>
              rcases hsb (p + 1) (Nat.le_refl _) i o' hoi with g | ⟨_, _, _, g⟩
              · rw [g] at ho2; cases ho2; exact hoi
              · omega
          have hlenp : H.len ≤ (K1 p).len := by rw [← hLN1 p (Nat.le_of_lt hlt)]; exact hHlenLN p (by rw [List.length_append]; omega)
          unfold gdoM at g2
          split at g2
          · rename_i f xs hcall'
            simp only [Option.bind_eq_some_iff, Option.map_eq_some_iff, Prod.mk.injEq] at g2
            obtain ⟨⟨f', args⟩, t1, ⟨v', H2⟩, t2, t3, t4⟩ := g2
            rw [hcall'] at hor
            have hc' : cOp P o.op = some (.call f xs) := by
              rcases hor with hc | ⟨_, _, _, _, _, _, e⟩
              · exact hc
              · cases e
            refine call_wp (H := ⟨(K1 p).t, (K1 p).len, (K1 p).len⟩) (base := w'.heap.size) hcall hc' t1 t2 ⟨Nat.le_refl _, hwfp.2⟩ hI.hr (hsub'.shut' (K1 p).len w'.heap.size (Nat.le_refl _) (fun i hi => ?_)) hI.frame ?_ fun v'' w'' hA => ?_
            · have := hwfp.2 i
              cases hoi : (K1 p).t.get i with
              | none => rfl
              | some o' => have := (this.1 (by show ((K1 p).t.get i).isSome = true; rw [hoi]; rfl)); omega
            · intro i h1 h2
              refine hfresh i h1 ?_
              rw [← t4]; exact h2
            · obtain ⟨ι'', r1, r2, r3, r4, r5⟩ := hA
              have hK1' : (K1 (p + 1)).t = H2.t ∧ (K1 (p + 1)).len = H2.len := by rw [← t4]; exact ⟨rfl, rfl⟩
              refine hK' v'' w'' ⟨ι'', r4, by rw [hVp, ← t3]; exact r1, HR.join hI.hr r2 r3 r4 fun i l e => ?_, r3.mono hI.hr.low, fun i l e => ?_⟩
              · rcases r5 i l e with g | ⟨g1, g2, g3⟩
                · exact .inl g
                · refine .inr ⟨hfresh i g1 (by rw [hK1'.2]; exact g2), g1, g3, fun o' ho' => ?_⟩
                  rw [← hK1'.1]
                  exact hback i (by simp only at g1; omega) (by rw [hK1'.2]; exact g2) o' ho'
              · rcases r5 i l e with g | ⟨g1, g2, g3⟩
                · exact .inl g
                · exact .inr ⟨Nat.le_trans hI.hr.low g3, by rw [hLN1 p (Nat.le_of_lt hlt)]; exact g1, by rw [hLN1 (p + 1) (by omega), hK1'.2]; exact g2⟩
          · simp only [Option.map_eq_some_iff, Prod.mk.injEq] at g2
            obtain ⟨⟨v, new⟩, h1, rfl, h2⟩ := g2
            have hlimp : (K1 p).lim = H.lim := ((hS1 p (Nat.le_of_lt hlt)).lim).trans hK0lim
            have hn : new.isSome = true → ι' (K1 p).len = none := fun hs => hfresh _ (Nat.le_refl _) (by rw [← h2]; cases new <;> simp [GHeap.add] at hs ⊢)
            obtain ⟨v', ι'', w'', r1, r2, r3, r4, r5, r6⟩ := gopM_ok hor h1 hsub' hI.frame hbyte hn
            have hnew : ∀ i l, ι'' i = some l → ι' i = some l ∨ (i = (K1 p).len ∧ w'.heap.size ≤ l.block ∧ (K1 (p + 1)).len = (K1 p).len + 1) := by
              intro i l e
              cases new with
              | none => rw [r5 rfl] at e; exact .inl e
              | some o' =>
                obtain ⟨L, rfl, hL⟩ := r6 o' rfl
                by_cases hi : i = (K1 p).len
                · subst hi
                  rw [Inj.upd_same] at e; cases e
                  exact .inr ⟨rfl, hL, by rw [← h2]; rfl⟩
                · rw [Inj.upd_ne _ _ hi] at e; exact .inl e
            have hle : ι'.le ι'' := by
              cases new with
              | none => rw [r5 rfl]; exact Inj.le.refl _
              | some o' => obtain ⟨L, rfl, _⟩ := r6 o' rfl; exact Inj.le_upd L (hn rfl)
            rw [h2] at r4
            unfold Oper.wp
            rw [r1]
            refine hK' v' w'' ⟨ι'', hle, by rw [hVp]; exact r3, HR.join hI.hr r4 r2 hle fun i l e => ?_, r2.mono hI.hr.low, fun i l e => ?_⟩
            · rcases hnew i l e with g | ⟨g1, g2, g3⟩
              · exact .inl g
              · exact .inr ⟨hfresh i (by omega) (by omega), by omega, g2, hback i (by omega) (by omega)⟩
            · rcases hnew i l e with g | ⟨g1, g2, g3⟩
              · exact .inl g
              · exact .inr ⟨Nat.le_trans hI.hr.low g2, by rw [hLN1 p (Nat.le_of_lt hlt)]; omega, by rw [hLN1 (p + 1) (by omega)]; omega⟩
      · exact hskip m (by rw [hVp]; exact g.2.1) (by rw [hFp]; exact g.1) hcut hI.hr
    · -- in the second part
      have hql : q < post.length := (List.getElem?_eq_some_iff.1 e1).1
      have hml := hI.post.1
      obtain rfl : q = m := by
        have h1 : ¬ q < m := fun hh => hS ((hI.post.2 q j e1).2 hh)
        rcases Nat.eq_zero_or_pos q with rfl | hqp
        · omega
        · have h2 := List.getElem?_eq_getElem (show q - 1 < post.length by omega)
          have h3 := (hI.post.2 (q - 1) _ h2).1 (hdep _ (hp.chain q j e1 (q - 1) _ (by omega) h2))
          omega
      have hcut : Cut post (fun i => S i ∨ i = j) (q + 1) := by
        refine ⟨hql, fun r i hr => ⟨fun hh => ?_, fun hh => ?_⟩⟩
        · rcases hh with hh | rfl
          · have := (hI.post.2 r i hr).1 hh; omega
          · have h1 : (pre ++ post)[pre.length + r]? = some i := by rw [List.getElem?_append_right (by omega), Nat.add_sub_cancel_left]; exact hr
            have := hp.nodup _ _ _ hpj h1
            omega
        · by_cases hrq : r = q
          · subst hrq; rw [e1] at hr; cases hr; exact .inr rfl
          · exact .inl ((hI.post.2 r i hr).2 (by omega))
      have hVp : V (pre.length + q) = V2 q := by simp only [V]; rw [if_neg (by omega), Nat.add_sub_cancel_left]
      obtain ⟨_, g | g⟩ := T2.step q _ (hpost q j e1)
      · obtain ⟨g1, g2⟩ := g
        unfold runPost at g2
        split at g2
        · cases g2
        · have hnb : (gs.getD j default).op ≠ .bad := fun e => by rw [e] at g2; exact bad_stuck g2
          refine hgo hnb (by rw [hFp2]; exact g1) (q + 1) hcut fun K' hK' => ?_
          rw [← hFp2, ← gdo_agree hra] at g2
          have hor : opRel P o.op (gs.getD j default).op := hop.resolve_right hnb
          have hfresh := hfreshAt S a w' q ι' fs hI _ j hpj hS
          rw [hLN2 q, show pre.length + q + 1 = pre.length + (q + 1) by omega, hLN2] at hfresh
          have hR : HR P base (K2 q).lim ι' (K2 q).t w' := by rw [hlen0 q hml]; exact hI.hr
          refine gdo_ok hcall hbyte hor g2 ((hF2 q hml).wf hBwf) hR hI.frame hfresh fun v' w'' hA => ?_
          obtain ⟨ι'', r1, r2, r3, r4, r5⟩ := hA
          refine hK' v' w'' ⟨ι'', r4, by rw [hVp]; exact r1, by rw [← hlen0 q hml]; exact r2, r3, fun i l e => ?_⟩
          rcases r5 i l e with g | ⟨g1, g2, g3⟩
          · exact .inl g
          · exact .inr ⟨g3, by rw [hLN2]; exact g1, by rw [show pre.length + q + 1 = pre.length + (q + 1) by omega, hLN2]; exact g2⟩
      · exact hskip (q + 1) (by rw [hVp]; exact g.2.1) (by rw [hFp2]; exact g.1) hcut (by rw [g.2.2]; exact hI.hr)
  · intro S a w' m ι' fs hI hall
    have hm : m = post.length := by
      have := hI.post.1
      rcases Nat.lt_or_ge m post.length with hh | hh
      · have h1 := List.getElem?_eq_getElem hh
        have h2 := (hI.post.2 m _ h1).1 (hall (pre.length + m) _ (by rw [List.getElem?_append_right (by omega), Nat.add_sub_cancel_left]; exact h1))
        omega
      · omega
    subst hm
    refine hQ a w' ⟨ι', ⟨hI.frame.1, fun t v hv => hI.frame.2 t v ?_⟩, hI.sz, by rw [← b4]; exact hI.hr, hI.bel, hI.le, fun i l e => ?_⟩
    · have hFn : F (pre ++ post).length = fr' := by rw [List.length_append, hFp2, b3]
      rw [← hFn] at hv
      rcases frame_at hp.lt hF0 hFstep _ (Nat.le_refl _) t with ⟨q, i, o, g1, g2, g3, g4, g5⟩ | ⟨g1, g2⟩
      · rw [g5] at hv
        rw [hI.put t q i g2 (by rw [g3]; exact g4) (hall q i g2)]; exact hv
      · rw [g2] at hv
        rw [hI.old t fun i hi hSi => ?_]
        · exact hv
        · cases hoi : ops[i]? with
          | none => rw [hoi] at hi; cases hi
          | some o =>
            rw [hoi] at hi
            obtain ⟨q, hq⟩ := hp.all i (Array.getElem?_eq_some_iff.1 hoi).1
            exact g1 q i o (List.getElem?_eq_some_iff.1 hq).1 hq hoi hi
    · rcases hI.new i l e with g | ⟨g1, p, j, g2, _, g3, g4⟩
      · exact .inl g
      · have hpl := (List.getElem?_eq_some_iff.1 g2).1
        have := hHlenLN p (by omega)
        have h2 := hLNmono ((pre ++ post).length - (p + 1)) (p + 1) (by omega)
        rw [show p + 1 + ((pre ++ post).length - (p + 1)) = (pre ++ post).length by omega, hLNn] at h2
        exact .inr ⟨by omega, by omega, g1⟩
  · exfalso
    rw [Array.getD_eq_getD_getElem?, Array.getElem?_replicate] at hj
    split at hj <;> simp at hj
end
end Go.Gh
