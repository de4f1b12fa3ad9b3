/-
  A region whose order is open: the theorem.
-/
import Derived.Test.YtfcbdkbdalbjmaaGhQ
namespace Go.Gh
set_option linter.unusedVariables false
set_option linter.unusedSimpArgs false
open Go.RowKit

def GRel (P : Program) (ops : Array Oper) (o : Oper) (g : GOper) : Prop :=
  g.dst = o.dst ∧ (cGuard ops o.guard = some g.guard ∨ (g.guard = none ∧ g.op = .bad)) ∧ (opRel P o.op g.op ∨ g.op = .bad)

section
variable {P : Program}
theorem zipIdx_all {l : List Nat} {f : Nat × Nat → Bool} (h : l.zipIdx.all f = true) {p j : Nat} (hp : l[p]? = some j) : f (j, p) = true := by
  rw [List.all_eq_true] at h
  refine h (j, p) ?_
  rw [List.mem_zipIdx_iff_getElem?]
  exact hp

/-- all that a plan says -/
structure Plan (P : Program) (ops : Array Oper) (gs : List GOper) (pre post : List Nat) : Prop where
  nodup : ∀ p q j : Nat, (pre ++ post)[p]? = some j → (pre ++ post)[q]? = some j → p = q
  lt : ∀ p j : Nat, (pre ++ post)[p]? = some j → j < ops.size
  all : ∀ j : Nat, j < ops.size → ∃ p : Nat, (pre ++ post)[p]? = some j
  order : ∀ p j : Nat, (pre ++ post)[p]? = some j → ∀ i ∈ (befores ops).getD j [], ∃ q : Nat, q < p ∧ (pre ++ post)[q]? = some i
  chain : ∀ q j : Nat, post[q]? = some j → ∀ r i : Nat, r < q → post[r]? = some i → i ∈ (befores ops).getD j []
  early : ∀ q j : Nat, post[q]? = some j → Gh.early (befores ops) (planOk.opOf gs) pre j = true → writes (planOk.opOf gs j) = true
  slot : ∀ j t : Nat, (ops[j]?).bind (·.dst) = some t → (∀ i, (ops[i]?).bind (·.dst) = some t → i = j) ∧ ∀ i, i < ops.size → i ≠ j → t ∈ planOk.reads (gs.getD i default) → i ∈ (befores ops).getD j [] ∨ j ∈ (befores ops).getD i []
theorem plan_of {ops : Array Oper} {gs : List GOper} {pre post : List Nat} (h : planOk ops (befores ops) gs pre post = true) : Plan P ops gs pre post := by
  simp only [planOk, Bool.and_eq_true] at h
  obtain ⟨⟨⟨⟨⟨⟨⟨h1, h2⟩, h3⟩, h4⟩, h5⟩, h6⟩, h7⟩, h8⟩ := h
  refine ⟨nodupB_inj _ h1, fun p j hp => ?_, fun j hj => ?_, fun p j hp i hi => ?_, fun q j hq r i hr hri => ?_, fun q j hq he => ?_, fun j t hj => ?_⟩
  · rw [List.all_eq_true] at h2
    simpa using h2 j (List.mem_of_getElem? hp)
  · rw [List.all_eq_true] at h3
    have := h3 j (List.mem_range.2 hj)
    exact List.getElem?_of_mem (by simpa using this)
  · have := zipIdx_all h4 hp
    simp only [List.all_eq_true] at this
    have := this i hi
    simp only [List.contains_iff_mem] at this
    obtain ⟨q, hq⟩ := List.getElem?_of_mem this
    rw [List.getElem?_take] at hq
    split at hq
    · rename_i hqp; exact ⟨q, hqp, hq⟩
    · cases hq
  · have := zipIdx_all h5 hq
    simp only [List.all_eq_true] at this
    have := this i (List.mem_of_getElem? (by rw [List.getElem?_take, if_pos hr]; exact hri))
    simpa [bef] using this
  · rw [List.all_eq_true] at h7
    have := h7 j (List.mem_of_getElem? hq)
    simpa [he] using this
  · have hjl : j < ops.size := by
      rcases Nat.lt_or_ge j ops.size with hh | hh
      · exact hh
      · rw [Array.getElem?_eq_none hh] at hj; cases hj
    rw [List.all_eq_true] at h8
    have := h8 j (List.mem_range.2 hjl)
    rw [hj] at this
    simp only [Bool.and_eq_true, beq_iff_eq, List.all_eq_true, List.mem_range, Bool.or_eq_true, Bool.not_eq_true'] at this
    obtain ⟨g1, g2⟩ := this
    refine ⟨fun i hi => ?_, fun i hi hij ht => ?_⟩
    · have him : i ∈ writers ops t := by
        unfold writers
        refine List.mem_filter.2 ⟨List.mem_range.2 ?_, by simpa using hi⟩
        rcases Nat.lt_or_ge i ops.size with hh | hh
        · exact hh
        · rw [Array.getElem?_eq_none hh] at hi; cases hi
      rw [g1] at him
      simpa using him
    · rcases g2 i hi with ((e | e) | e) | e
      · exact absurd e hij
      · left; simpa [bef] using e
      · right; simpa [bef] using e
      · rw [Bool.eq_false_iff] at e
        exact absurd (by simpa using ht) e

variable {base : Nat} {ι : Inj} {H : GHeap} {w : World} {fr : Fr} {N : Nat} {ops : Array Oper} {gs : List GOper} {pre post : List Nat} {K1 K2 : Nat → GHeap} {F : Nat → Fr} {V : Nat → Value} {LN : Nat → Nat}
/-- how far what comes behind has come -/
def Cut (post : List Nat) (S : Nat → Prop) (m : Nat) : Prop := m ≤ post.length ∧ ∀ q j : Nat, post[q]? = some j → (S j ↔ q < m)
/-- where the run stands: some operations have had their way -/
structure Inv (P : Program) (base : Nat) (ι : Inj) (H : GHeap) (w : World) (fr : Fr) (N : Nat) (ops : Array Oper) (pre post : List Nat) (K2 : Nat → GHeap) (V : Nat → Value) (LN : Nat → Nat)
    (S : Nat → Prop) (a : Act) (w' : World) (m : Nat) (ι' : Inj) (fs : Fr) : Prop where
  le : ι.le ι'
  new : ∀ i l, ι' i = some l → ι i = some l ∨ (base ≤ l.block ∧ ∃ p j : Nat, (pre ++ post)[p]? = some j ∧ S j ∧ LN p ≤ i ∧ i < LN (p + 1))
  hr : HR P base H.lim ι' (K2 m).t w'
  bel : Below base w w'
  frame : FR ι' fs a
  sz : a.tmps.size = N
  put : ∀ t p j : Nat, (pre ++ post)[p]? = some j → (ops[j]?).bind (·.dst) = some t → S j → fs.get t = some (V p)
  old : ∀ t : Nat, (∀ j : Nat, (ops[j]?).bind (·.dst) = some t → ¬ S j) → fs.get t = fr.get t
  post : Cut post S m
/-- what one operation, at a place, has to bring about -/
def StepOk (P : Program) (base : Nat) (H : GHeap) (K2 : Nat → GHeap) (LN : Nat → Nat) (p m' : Nat) (v : Value) (ι' : Inj) (w' : World) (v' : Value) (w'' : World) : Prop :=
  ∃ ι'', ι'.le ι'' ∧ VR ι'' v v' ∧ HR P base H.lim ι'' (K2 m').t w'' ∧ Below base w' w'' ∧ ∀ i l, ι'' i = some l → ι' i = some l ∨ (base ≤ l.block ∧ LN p ≤ i ∧ i < LN (p + 1))
theorem Inv.step (hp : Plan P ops gs pre post) {S : Nat → Prop} {a : Act} {w' w'' : World} {m m' : Nat} {ι' : Inj} {fs : Fr} (h : Inv P base ι H w fr N ops pre post K2 V LN S a w' m ι' fs) {p j : Nat} {o : Oper} (hpj : (pre ++ post)[p]? = some j) (ho : ops[j]? = some o) (hS : ¬ S j)
    (hd : ∀ d, o.dst = some d → d < N) {v' : Value} (hs : StepOk P base H K2 LN p m' (V p) ι' w' v' w'') (hm : Cut post (fun i => S i ∨ i = j) m') :
    ∃ ι'' fs', Inv P base ι H w fr N ops pre post K2 V LN (fun i => S i ∨ i = j) (a.put o.dst v') w'' m' ι'' fs' := by
  obtain ⟨ι'', h1, h2, h3, h4, h5⟩ := hs
  refine ⟨ι'', gput fs o.dst (V p), h.le.trans h1, fun i l e => ?_, h3, h.bel.trans h4, (h.frame.mono h1).put h2 (fun d e => by rw [h.sz]; exact hd d e), by rw [put_size]; exact h.sz, fun t q i hq hi hSi => ?_, fun t ht => ?_, hm⟩
  · rcases h5 i l e with g | ⟨g1, g2, g3⟩
    · rcases h.new i l g with g | ⟨g1, q, i', g2, g3, g4⟩
      · exact .inl g
      · exact .inr ⟨g1, q, i', g2, .inl g3, g4⟩
    · exact .inr ⟨g1, p, j, hpj, .inr rfl, g2, g3⟩
  · by_cases hij : i = j
    · subst hij
      obtain rfl := hp.nodup _ _ _ hq hpj
      rw [ho] at hi
      simp only [Option.bind_some] at hi
      rw [hi]
      simp [gput]
    · have hSi' : S i := hSi.resolve_right hij
      have hne : o.dst ≠ some t := fun e => hij ((hp.slot j t (by rw [ho]; exact e)).1 i hi)
      have := h.put t q i hq hi hSi'
      cases hdo : o.dst with
      | none => exact this
      | some d =>
        have : d ≠ t := fun e => hne (by rw [hdo, e])
        simp only [gput, Tr.get_set_ne _ _ this]
        assumption
  · have hne : o.dst ≠ some t := fun e => ht j (by rw [ho]; exact e) (.inr rfl)
    have := h.old t (fun i hi hSi => ht i hi (.inl hSi))
    cases hdo : o.dst with
    | none => exact this
    | some d =>
      have : d ≠ t := fun e => hne (by rw [hdo, e])
      simp only [gput, Tr.get_set_ne _ _ this]
      assumption
/-- the slots that an operation looks at hold what they hold in the ghost run -/
theorem Inv.agree (hp : Plan P ops gs pre post) {S : Nat → Prop} {a : Act} {w' : World} {m : Nat} {ι' : Inj} {fs : Fr} (h : Inv P base ι H w fr N ops pre post K2 V LN S a w' m ι' fs) (hF0 : F 0 = fr) (hF : ∀ p j o, (pre ++ post)[p]? = some j → ops[j]? = some o → F (p + 1) = gput (F p) o.dst (V p))
    (hclosed : ∀ j, S j → ∀ i ∈ (befores ops).getD j [], S i) {p j : Nat} (hpj : (pre ++ post)[p]? = some j) (hS : ¬ S j) (hdep : ∀ i ∈ (befores ops).getD j [], S i) : ∀ t ∈ planOk.reads (gs.getD j default), fs.get t = (F p).get t := by
  have hL : ∀ q, q < p → ∃ (i : Nat) (o : Oper), (pre ++ post)[q]? = some i ∧ ops[i]? = some o := fun q hq => by
    have hql : q < (pre ++ post).length := Nat.lt_trans hq (List.getElem?_eq_some_iff.1 hpj).1
    exact ⟨_, _, List.getElem?_eq_getElem hql, Array.getElem?_eq_getElem (hp.lt _ _ (List.getElem?_eq_getElem hql))⟩
  -- the ghost frame by slots
  have hold : ∀ n, n ≤ p → ∀ t, (∀ q i o, q < n → (pre ++ post)[q]? = some i → ops[i]? = some o → o.dst ≠ some t) → (F n).get t = fr.get t := by
    intro n
    induction n with
    | zero => intro _ t _; rw [hF0]
    | succ n ih =>
      intro hn t ht
      obtain ⟨i, o, h1, h2⟩ := hL n (by omega)
      rw [hF n i o h1 h2]
      have hne := ht n i o (by omega) h1 h2
      have := ih (by omega) t (fun q i o hq => ht q i o (by omega))
      cases hdo : o.dst with
      | none => exact this
      | some d =>
        have : d ≠ t := fun e => hne (by rw [hdo, e])
        simp only [gput, Tr.get_set_ne _ _ this]
        assumption
  have hput : ∀ n, n ≤ p → ∀ t q i o, q < n → (pre ++ post)[q]? = some i → ops[i]? = some o → o.dst = some t → (F n).get t = some (V q) := by
    intro n
    induction n with
    | zero => intro _ t q i o hq; omega
    | succ n ih =>
      intro hn t q i o hq h1 h2 h3
      obtain ⟨i', o', g1, g2⟩ := hL n (by omega)
      rw [hF n i' o' g1 g2]
      by_cases hqn : q = n
      · subst hqn
        rw [h1] at g1; cases g1
        rw [h2] at g2; cases g2
        rw [h3]; simp [gput]
      · have hne : o'.dst ≠ some t := fun e => by
          have := (hp.slot i t (by rw [h2]; exact h3)).1 i' (by rw [g2]; exact e)
          subst this
          exact hqn (hp.nodup _ _ _ h1 g1)
        have := ih (by omega) t q i o (by omega) h1 h2 h3
        cases hdo : o'.dst with
        | none => exact this
        | some d =>
          have : d ≠ t := fun e => hne (by rw [hdo, e])
          simp only [gput, Tr.get_set_ne _ _ this]
          assumption
  intro t ht
  by_cases hex : ∃ (i : Nat) (o : Oper), ops[i]? = some o ∧ o.dst = some t
  · obtain ⟨i, o, hi, hd⟩ := hex
    have hb : (ops[i]?).bind (·.dst) = some t := by rw [hi]; exact hd
    have huniq := (hp.slot i t hb).1
    have hnot : (S i → False) → (∀ q i' o', q < p → (pre ++ post)[q]? = some i' → ops[i']? = some o' → o'.dst ≠ some t) → fs.get t = (F p).get t := fun h1 h2 => by
      rw [hold p (Nat.le_refl _) t h2]
      exact h.old t (fun i' hi' hS' => by rw [huniq i' hi'] at hS'; exact h1 hS')
    by_cases hij : i = j
    · subst hij
      refine hnot hS fun q i' o' hq h1 h2 e => ?_
      have := huniq i' (by rw [h2]; exact e)
      subst this
      have := hp.nodup _ _ _ h1 hpj
      omega
    · have hjl : j < ops.size := hp.lt _ _ hpj
      rcases (hp.slot i t hb).2 j hjl (Ne.symm hij) ht with g | g
      · -- the writer waits for this operation
        refine hnot (fun hSi => hS (hclosed i hSi j g)) fun q i' o' hq h1 h2 e => ?_
        have := huniq i' (by rw [h2]; exact e)
        subst this
        obtain ⟨q', hq', h3⟩ := hp.order q i' h1 j g
        have := hp.nodup _ _ _ h3 hpj
        omega
      · obtain ⟨q, hq, h1⟩ := hp.order p j hpj i g
        rw [h.put t q i h1 hb (hdep i g), hput p (Nat.le_refl _) t q i o hq h1 hi hd]
  · rw [hold p (Nat.le_refl _) t (fun q i o hq h1 h2 e => hex ⟨i, o, h2, e⟩)]
    exact h.old t (fun i hi _ => by
      cases ho : ops[i]? with
      | none => rw [ho] at hi; cases hi
      | some o => rw [ho] at hi; exact hex ⟨i, o, ho, hi⟩)

theorem count_lt' (listed : Array Bool) (n i : Nat) (hi : i < n) (hl : listed.getD i true = false) :
    ((List.range n).countP fun k => !(listed.setIfInBounds i true).getD k true) < (List.range n).countP fun k => !listed.getD k true := by
  have hsz : i < listed.size := by
    rcases Nat.lt_or_ge i listed.size with h | h
    · exact h
    · simp [Array.getD, Nat.not_lt.2 h] at hl
  have hm : ∀ k, (!(listed.setIfInBounds i true).getD k true) = true → (!listed.getD k true) = true := by
    intro k hk
    by_cases e : i = k
    · subst e; rw [hl]; rfl
    · rw [Array.getD_eq_getD_getElem?, Array.getElem?_setIfInBounds_ne e, ← Array.getD_eq_getD_getElem?] at hk
      exact hk
  obtain ⟨l1, l2, hs⟩ := List.append_of_mem (List.mem_range.2 hi)
  rw [hs, List.countP_append, List.countP_append, List.countP_cons, List.countP_cons]
  have h1 := List.countP_mono_left (l := l1) (fun k _ => hm k)
  have h2 := List.countP_mono_left (l := l2) (fun k _ => hm k)
  have h3 : (!(listed.setIfInBounds i true).getD i true) = false := by
    rw [Array.getD_eq_getD_getElem?, Array.getElem?_setIfInBounds_self_of_lt hsz]; rfl
  rw [h3, hl]
  simp only [Bool.not_false, Bool.false_eq_true, if_true, if_false]
  omega
/-- the rounds of 'whatever is ready next' -/
theorem any_rounds (hp : Plan P ops gs pre post) {Q : Exit → Act → World → Prop} {act0 : Act}
    (hstep : ∀ (S : Nat → Prop) (a : Act) (w' : World) (m : Nat) (ι' : Inj) (fs : Fr), Inv P base ι H w fr N ops pre post K2 V LN S a w' m ι' fs → (∀ j, S j → ∀ i ∈ (befores ops).getD j [], S i) →
      ∀ (p j : Nat) (o : Oper), (pre ++ post)[p]? = some j → ops[j]? = some o → ¬ S j → (∀ i ∈ (befores ops).getD j [], S i) → ∀ K : Act → World → Prop,
        (∀ v' w'' m', StepOk P base H K2 LN p m' (V p) ι' w' v' w'' → Cut post (fun i => S i ∨ i = j) m' → K (a.put o.dst v') w'') → wpOp P ops Q j K a w')
    (hd : ∀ o ∈ ops.toList, ∀ d, o.dst = some d → d < N)
    (hend : ∀ (S : Nat → Prop) (a : Act) (w' : World) (m : Nat) (ι' : Inj) (fs : Fr), Inv P base ι H w fr N ops pre post K2 V LN S a w' m ι' fs → (∀ p j : Nat, (pre ++ post)[p]? = some j → S j) → Q .normal a w') :
    ∀ (fuel : Nat) (listed : Array Bool) (a : Act) (w' : World) (m : Nat) (ι' : Inj) (fs : Fr), listed.size = ops.size → ((List.range ops.size).countP fun k => !listed.getD k true) ≤ fuel →
      (∀ j o, ops[j]? = some o → listed.getD j false = true → ∀ e ∈ o.after.toList, Region.binds .any e = true → listed.getD e.on false = true) →
      Inv P base ι H w fr N ops pre post K2 V LN (fun j => listed.getD j false = true) a w' m ι' fs → wpAny P .any ops Q fuel listed a w' := by
  have hfull : ∀ listed : Array Bool, listed.size = ops.size → Region.ready .any ops listed = [] → ∀ p j : Nat, (pre ++ post)[p]? = some j → listed.getD j false = true := by
    intro listed hls hr p
    induction p using Nat.strongRecOn with
    | _ p ih =>
      intro j hpj
      have hjl := hp.lt p j hpj
      cases hb : listed.getD j false with
      | true => rfl
      | false =>
        exfalso
        have hjs : j < listed.size := by omega
        have hmem : j ∈ Region.ready .any ops listed := by
          unfold Region.ready
          refine List.mem_filter.2 ⟨List.mem_range.2 hjl, ?_⟩
          have ho : ops[j]? = some ops[j] := Array.getElem?_eq_getElem hjl
          have hb' : listed.getD j true = false := by simp [Array.getD, hjs] at hb ⊢; exact hb
          simp only [hb', Bool.not_false, Bool.true_and, ho, Option.map_some, Option.getD_some]
          rw [Array.all_eq_true]
          intro x hx
          have hxm : (ops[j]).after[x] ∈ (ops[j]).after.toList := by simp
          cases hbn : Region.binds .any (ops[j]).after[x] with
          | false => simp
          | true =>
            obtain ⟨q, hq, h1⟩ := hp.order p j hpj _ (direct_mem ho hxm hbn)
            simp [ih q hq _ h1]
        rw [hr] at hmem
        cases hmem
  intro fuel
  induction fuel with
  | zero =>
    intro listed a w' m ι' fs hls hcnt hcl hI
    have hr : Region.ready .any ops listed = [] := by
      rw [List.eq_nil_iff_forall_not_mem]
      intro i hi
      unfold Region.ready at hi
      obtain ⟨h1, h2⟩ := List.mem_filter.1 hi
      simp only [Bool.and_eq_true] at h2
      have h0 : ((List.range ops.size).countP fun k => !listed.getD k true) = 0 := by omega
      rw [List.countP_eq_zero] at h0
      exact h0 i h1 h2.1
    exact ⟨hr, hend _ a w' m ι' fs hI (hfull listed hls hr)⟩
  | succ fuel ih =>
    intro listed a w' m ι' fs hls hcnt hcl hI
    refine ⟨fun hr => hend _ a w' m ι' fs hI (hfull listed hls hr), fun i hi => ?_⟩
    unfold Region.ready at hi
    obtain ⟨h1, h2⟩ := List.mem_filter.1 hi
    have hio : i < ops.size := List.mem_range.1 h1
    have ho : ops[i]? = some ops[i] := Array.getElem?_eq_getElem hio
    simp only [Bool.and_eq_true, Bool.not_eq_true', ho, Option.map_some, Option.getD_some] at h2
    obtain ⟨hnl, hdeps⟩ := h2
    have hils : i < listed.size := by omega
    have hnl' : listed.getD i false = false := by simp [Array.getD, hils] at hnl ⊢; exact hnl
    have hdep : ∀ e ∈ (ops[i]).after.toList, Region.binds .any e = true → listed.getD e.on false = true := by
      intro e he hbn
      rw [Array.all_eq_true] at hdeps
      obtain ⟨x, hx, rfl⟩ := List.getElem_of_mem he
      have h3 := hdeps x (by simpa using hx)
      simp only [Array.getElem_toList] at hbn ⊢
      rw [hbn] at h3
      simpa using h3
    have hcl' := closed_all (ops := ops) (S := fun j => listed.getD j false = true) hcl
    obtain ⟨p, hpi⟩ := hp.all i hio
    have hset : ∀ k, (listed.setIfInBounds i true).getD k false = true ↔ (listed.getD k false = true ∨ k = i) := by
      intro k
      rw [Array.getD_eq_getD_getElem?, Array.getD_eq_getD_getElem?, Array.getElem?_setIfInBounds]
      by_cases e : i = k
      · subst e; simp [hils]
      · simp [e, Ne.symm e]
    refine hstep _ a w' m ι' fs hI (fun j hj i' hi' => ?_) p i ops[i] hpi ho (by simp [hnl']) (hcl' i i ops[i] (Nat.le_refl _) ho hdep) _ fun v' w'' m' hs hm => ?_
    · have hjl : j < ops.size := by
        rcases Nat.lt_or_ge j ops.size with hh | hh
        · exact hh
        · simp [Array.getD, show ¬ j < listed.size by omega] at hj
      exact hcl' j j ops[j] (Nat.le_refl _) (Array.getElem?_eq_getElem hjl) (hcl j _ (Array.getElem?_eq_getElem hjl) hj) i' hi'
    · obtain ⟨ι'', fs', hI'⟩ := hI.step hp hpi ho (by simp [hnl']) (fun d e => hd _ (by simp) d e) hs hm
      refine ih _ _ _ m' ι'' fs' (by simpa using hls) (by have := count_lt' listed ops.size i hio hnl; omega) (fun j o' ho' hj e he hbn => ?_) ?_
      · rw [hset] at hj ⊢
        rcases hj with hj | rfl
        · exact .inl (hcl j o' ho' hj e he hbn)
        · rw [ho] at ho'; cases ho'; exact .inl (hdep e he hbn)
      · have : (fun k => (listed.setIfInBounds i true).getD k false = true) = fun k => listed.getD k false = true ∨ k = i := funext fun k => propext (hset k)
        rw [this]
        exact hI'
end
end Go.Gh
