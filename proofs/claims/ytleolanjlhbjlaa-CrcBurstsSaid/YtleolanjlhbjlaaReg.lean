/-
  A region whose operations may run in any order and only read, or make memory: one proof an operation; its parts' rules.
-/
import Derived.Test.YtleolanjlhbjlaaLib
namespace Go.Proofs.Ytleolanjlhbjlaa
open Go.RowKit

/- MINE 4: a region whose operations only read, or make memory, in whatever order: one proof an operation -/
def wrs (ops : Array Oper) (t : Nat) : List Nat := (List.range ops.size).filter fun j => (ops[j]?).bind (·.dst) == some t
def afterHas (ops : Array Oper) (i j : Nat) : Bool := ((ops[i]?).map fun o => o.after.any fun e => Region.binds .any e && e.on == j).getD false
/-- where operation i finds slot t: 'some none': as the region found it; 'some (some j)': as operation j left it; 'none': not known. -/
def srcOf (ops : Array Oper) (i t : Nat) : Option (Option Nat) :=
  match wrs ops t with
  | [] => some none
  | [j] => if afterHas ops i j then some (some j) else if afterHas ops j i then some none else none
  | _ => none
def orderedB (ops : Array Oper) : Bool := ops.zipIdx.all fun (o, i) => o.after.all fun e => !Region.binds .any e || e.on < i

section
variable {P : Program} {ops : Array Oper} {Q : Exit → Act → World → Prop}
def SeesAt (φ : Nat → Value → World → Prop) (a0 : Act) (a : Act) (w : World) (t : Nat) : Option (Option Nat) → Prop
  | some none => a.tmps.getD t undef = a0.tmps.getD t undef
  | some (some j) => φ j (a.tmps.getD t undef) w
  | none => True
def EndAt (φ : Nat → Value → World → Prop) (a0 : Act) (a : Act) (w : World) (t : Nat) : List Nat → Prop
  | [] => a.tmps.getD t undef = a0.tmps.getD t undef
  | [j] => φ j (a.tmps.getD t undef) w
  | _ => True
def SlotAt (φ : Nat → Value → World → Prop) (a0 : Act) (listed : Array Bool) (a : Act) (w : World) (t : Nat) : List Nat → Prop
  | [] => a.tmps.getD t undef = a0.tmps.getD t undef
  | [j] => if listed.getD j false = true then φ j (a.tmps.getD t undef) w else a.tmps.getD t undef = a0.tmps.getD t undef
  | _ => True

theorem count_lt (listed : Array Bool) (n i : Nat) (hi : i < n) (hl : listed.getD i true = false) :
    ((List.range n).countP fun k => !(listed.setIfInBounds i true).getD k true) < (List.range n).countP fun k => !listed.getD k true := by
  have hsz : i < listed.size := by
    rcases Nat.lt_or_ge i listed.size with h | h
    · exact h
    · simp [Array.getD, Nat.not_lt.2 h] at hl
  have hm : ∀ k, (!(listed.setIfInBounds i true).getD k true) = true → (!listed.getD k true) = true := by
    intro k hk
    by_cases e : i = k
    · subst e; rw [hl]; rfl
    · rw [Array.getD_eq_getD_getElem?, Array.getElem?_setIfInBounds_ne e, ← Array.getD_eq_getD_getElem?] at hk
      exact hk
  obtain ⟨l1, l2, hs⟩ := List.append_of_mem (List.mem_range.2 hi)
  rw [hs, List.countP_append, List.countP_append, List.countP_cons, List.countP_cons]
  have h1 := List.countP_mono_left (l := l1) (fun k _ => hm k)
  have h2 := List.countP_mono_left (l := l2) (fun k _ => hm k)
  have h3 : (!(listed.setIfInBounds i true).getD i true) = false := by
    rw [Array.getD_eq_getD_getElem?, Array.getElem?_setIfInBounds_self_of_lt hsz]; rfl
  rw [h3, hl]
  simp only [Bool.not_false, Bool.false_eq_true, if_true, if_false]
  omega

theorem wpAny_mono (φ : Nat → Value → World → Prop) (a0 : Act) (w0 : World) (hmono : ∀ i v w w', Le w w' → φ i v w → φ i v w') (hord : orderedB ops = true)
    (hsz : ∀ (t : Nat) (j : Nat), wrs ops t = [j] → t < a0.tmps.size)
    (hop : ∀ i o, ops[i]? = some o → ∀ a w, Le w0 w → a.defers = a0.defers → (∀ t, SeesAt φ a0 a w t (srcOf ops i t)) →
      ∀ K : Act → World → Prop, (∀ v w', Le w w' → φ i v w' → K (a.put o.dst v) w') → wpOp P ops Q i K a w)
    (hend : ∀ a w, Le w0 w → a.defers = a0.defers → a.tmps.size = a0.tmps.size → (∀ t, EndAt φ a0 a w t (wrs ops t)) → Q .normal a w) :
    ∀ (fuel : Nat) (listed : Array Bool) (a : Act) (w : World), listed.size = ops.size → ((List.range ops.size).countP fun k => !listed.getD k true) ≤ fuel →
      (∀ i j, listed.getD j false = true → afterHas ops j i = true → listed.getD i false = true) → Le w0 w → a.defers = a0.defers → a.tmps.size = a0.tmps.size →
      (∀ t, SlotAt φ a0 listed a w t (wrs ops t)) → wpAny P .any ops Q fuel listed a w := by
  have hfin : ∀ (listed : Array Bool) (a : Act) (w : World), listed.size = ops.size → (∀ k, k < ops.size → listed.getD k false = true) → Le w0 w → a.defers = a0.defers → a.tmps.size = a0.tmps.size →
      (∀ t, SlotAt φ a0 listed a w t (wrs ops t)) → Q .normal a w := by
    intro listed a w _ hall hle hdf hts hslot
    refine hend a w hle hdf hts fun t => ?_
    have h := hslot t
    cases hw : wrs ops t with
    | nil => rw [hw] at h; exact h
    | cons j r =>
      cases r with
      | nil =>
        rw [hw] at h
        have hj : j < ops.size := by
          have : j ∈ wrs ops t := by rw [hw]; simp
          exact List.mem_range.1 (List.mem_filter.1 this).1
        have h' : (if listed.getD j false = true then φ j (a.tmps.getD t undef) w else a.tmps.getD t undef = a0.tmps.getD t undef) := h
        rw [if_pos (hall j hj)] at h'
        exact h'
      | cons _ _ => trivial
  have hfull : ∀ listed : Array Bool, listed.size = ops.size → Region.ready .any ops listed = [] → ∀ k, k < ops.size → listed.getD k false = true := by
    intro listed hls hr k
    induction k using Nat.strongRecOn with
    | _ k ih =>
      intro hk
      have hkl : k < listed.size := by omega
      cases hb : listed.getD k false with
      | true => rfl
      | false =>
        exfalso
        have hmem : k ∈ Region.ready .any ops listed := by
          unfold Region.ready
          refine List.mem_filter.2 ⟨List.mem_range.2 hk, ?_⟩
          have ho : ops[k]? = some ops[k] := Array.getElem?_eq_getElem hk
          have hb' : listed.getD k true = false := by
            simp [Array.getD, hkl] at hb ⊢; exact hb
          simp only [hb', Bool.not_false, Bool.true_and, ho, Option.map_some, Option.getD_some]
          rw [Array.all_eq_true]
          intro x hx
          unfold orderedB at hord
          rw [Array.all_eq_true] at hord
          have h1 := hord k (by simpa using hk)
          simp only [Array.getElem_zipIdx, Nat.zero_add] at h1
          rw [Array.all_eq_true] at h1
          have h2 := h1 x hx
          simp only [Bool.or_eq_true, Bool.not_eq_true', decide_eq_true_eq] at h2 ⊢
          rcases h2 with h2 | h2
          · exact Or.inl h2
          · exact Or.inr (ih _ h2 (by omega))
        rw [hr] at hmem
        cases hmem
  intro fuel
  induction fuel with
  | zero =>
    intro listed a w hls hcnt hcl hle hdf hts hslot
    have hr : Region.ready .any ops listed = [] := by
      rw [List.eq_nil_iff_forall_not_mem]
      intro i hi
      unfold Region.ready at hi
      obtain ⟨h1, h2⟩ := List.mem_filter.1 hi
      simp only [Bool.and_eq_true] at h2
      have h0 : ((List.range ops.size).countP fun k => !listed.getD k true) = 0 := by omega
      rw [List.countP_eq_zero] at h0
      exact h0 i h1 h2.1
    exact ⟨hr, hfin listed a w hls (hfull listed hls hr) hle hdf hts hslot⟩
  | succ fuel ih =>
    intro listed a w hls hcnt hcl hle hdf hts hslot
    refine ⟨fun hr => hfin listed a w hls (hfull listed hls hr) hle hdf hts hslot, fun i hi => ?_⟩
    unfold Region.ready at hi
    obtain ⟨h1, h2⟩ := List.mem_filter.1 hi
    have hio : i < ops.size := List.mem_range.1 h1
    have ho : ops[i]? = some ops[i] := Array.getElem?_eq_getElem hio
    simp only [Bool.and_eq_true, Bool.not_eq_true', ho, Option.map_some, Option.getD_some] at h2
    obtain ⟨hnl, hdeps⟩ := h2
    have hnl' : listed.getD i false = false := by
      have : i < listed.size := by omega
      simp [Array.getD, this] at hnl ⊢; exact hnl
    have hdep : ∀ j, afterHas ops i j = true → listed.getD j false = true := by
      intro j hj
      unfold afterHas at hj
      rw [ho] at hj
      simp only [Option.map_some, Option.getD_some] at hj
      rw [Array.any_eq_true] at hj
      obtain ⟨x, hx, hx2⟩ := hj
      rw [Array.all_eq_true] at hdeps
      have h3 := hdeps x hx
      simp only [Bool.and_eq_true, beq_iff_eq] at hx2
      obtain ⟨hb, he⟩ := hx2
      rw [hb] at h3
      simp only [Bool.not_true, Bool.false_or] at h3
      rw [← he]; exact h3
    refine hop i _ ho a w hle hdf (fun t => ?_) _ fun v w' hl' hφ => ?_
    · have h := hslot t
      unfold srcOf
      cases hw : wrs ops t with
      | nil => rw [hw] at h; exact h
      | cons j r =>
        cases r with
        | nil =>
          rw [hw] at h
          have h' : (if listed.getD j false = true then φ j (a.tmps.getD t undef) w else a.tmps.getD t undef = a0.tmps.getD t undef) := h
          by_cases hij : afterHas ops i j = true
          · simp only [hij, if_true]
            rw [if_pos (hdep j hij)] at h'
            exact h'
          · simp only [hij]
            by_cases hji : afterHas ops j i = true
            · have hnj : ¬ listed.getD j false = true := fun hj => by
                have := hcl i j hj hji
                rw [hnl'] at this
                cases this
              rw [if_neg hnj] at h'
              simp only [hji, if_true]
              exact h'
            · simp [hji, SeesAt]
        | cons _ _ => trivial
    · refine ih _ _ _ (by simpa using hls) ?_ ?_ (hle.trans hl') (by cases hd : (ops[i]).dst <;> simp [Act.put, hdf]) (by cases hd : (ops[i]).dst <;> simp [Act.put, hts]) ?_
      · have := count_lt listed ops.size i hio hnl
        omega
      · intro x j hj hjx
        have key : ∀ k, (listed.setIfInBounds i true).getD k false = true ↔ (k = i ∨ listed.getD k false = true) := by
          intro k
          rw [Array.getD_eq_getD_getElem?, Array.getD_eq_getD_getElem?, Array.getElem?_setIfInBounds]
          by_cases e : i = k
          · subst e; simp [show i < listed.size by omega]
          · simp [e, Ne.symm e]
        rw [key] at hj ⊢
        rcases hj with rfl | hj
        · exact Or.inr (hdep x hjx)
        · exact Or.inr (hcl x j hj hjx)
      · intro t
        have key : ∀ k, (listed.setIfInBounds i true).getD k false = true ↔ (k = i ∨ listed.getD k false = true) := by
          intro k
          rw [Array.getD_eq_getD_getElem?, Array.getD_eq_getD_getElem?, Array.getElem?_setIfInBounds]
          by_cases e : i = k
          · subst e; simp [show i < listed.size by omega]
          · simp [e, Ne.symm e]
        have h := hslot t
        have hput : ∀ t', (ops[i]).dst ≠ some t' → (a.put (ops[i]).dst v).tmps.getD t' undef = a.tmps.getD t' undef := by
          intro t' hne
          cases hd : (ops[i]).dst with
          | none => rfl
          | some d =>
            have : d ≠ t' := fun e => hne (by rw [hd, e])
            simp [Act.put, Array.getElem?_setIfInBounds_ne this]
        cases hw : wrs ops t with
        | nil =>
          rw [hw] at h
          show (a.put (ops[i]).dst v).tmps.getD t undef = _
          rw [hput t (fun e => by
            have : i ∈ wrs ops t := List.mem_filter.2 ⟨h1, by rw [ho]; simp [e]⟩
            rw [hw] at this; cases this)]
          exact h
        | cons j r =>
          cases r with
          | nil =>
            rw [hw] at h
            have h' : (if listed.getD j false = true then φ j (a.tmps.getD t undef) w else a.tmps.getD t undef = a0.tmps.getD t undef) := h
            show (if (listed.setIfInBounds i true).getD j false = true then φ j ((a.put (ops[i]).dst v).tmps.getD t undef) w' else (a.put (ops[i]).dst v).tmps.getD t undef = a0.tmps.getD t undef)
            by_cases hji : j = i
            · subst hji
              have hd : (ops[j]).dst = some t := by
                have : j ∈ wrs ops t := by rw [hw]; simp
                have := (List.mem_filter.1 this).2
                rw [ho] at this
                simpa using this
              rw [if_pos ((key j).2 (Or.inl rfl))]
              have ht : t < a.tmps.size := by rw [hts]; exact hsz t j hw
              have : (a.put (ops[j]).dst v).tmps.getD t undef = v := by
                rw [hd]; simp [Act.put, ht]
              rw [this]
              exact hφ
            · have hne : (ops[i]).dst ≠ some t := fun e => by
                have : i ∈ wrs ops t := List.mem_filter.2 ⟨h1, by rw [ho]; simp [e]⟩
                rw [hw] at this
                simp at this
                exact hji this.symm
              rw [hput t hne]
              by_cases hlj : listed.getD j false = true
              · rw [if_pos ((key j).2 (Or.inr hlj))]
                rw [if_pos hlj] at h'
                exact hmono _ _ _ _ hl' h'
              · rw [if_neg (fun e => (key j).1 e |>.elim hji hlj)]
                rw [if_neg hlj] at h'
                exact h'
          | cons _ _ => trivial

/-- THE RULE: 'φ i v w': what operation i hands back, in whatever world behind it. -/
theorem wp_region_mono {id : Nat} (φ : Nat → Value → World → Prop) (a0 : Act) (w0 : World) (hm : P.follows .mixedOrders = true) (hmono : ∀ i v w w', Le w w' → φ i v w → φ i v w') (hord : orderedB ops = true)
    (hsz : ∀ (t : Nat) (j : Nat), wrs ops t = [j] → t < a0.tmps.size)
    (hop : ∀ i o, ops[i]? = some o → ∀ a w, Le w0 w → a.defers = a0.defers → (∀ t, SeesAt φ a0 a w t (srcOf ops i t)) →
      ∀ K : Act → World → Prop, (∀ v w', Le w w' → φ i v w' → K (a.put o.dst v) w') → wpOp P ops Q i K a w)
    (hend : ∀ a w, Le w0 w → a.defers = a0.defers → a.tmps.size = a0.tmps.size → (∀ t, EndAt φ a0 a w t (wrs ops t)) → Q .normal a w) : (Code.region id ops true).wp P Q a0 w0 := by
  refine wp_region_any hm (wpAny_mono φ a0 w0 hmono hord hsz hop hend ops.size _ a0 _ (by simp) (by simpa using List.countP_le_length (l := List.range ops.size)) ?_ ((Le.refl w0).drew) rfl rfl fun t => ?_)
  · intro i j hj
    simp [Array.getD] at hj
  · cases hw : wrs ops t with
    | nil => rfl
    | cons j r =>
      cases r with
      | nil => show (if (Array.replicate ops.size false).getD j false = true then _ else _); simp [Array.getD]
      | cons _ _ => trivial
end

/- MINE 7: one operation of such a region -/
section
variable {P : Program} {ops : Array Oper} {Q : Exit → Act → World → Prop} {K : Act → World → Prop} {a : Act} {w : World}
theorem wpOp_plain {i : Nat} {o : Oper} (ho : ops[i]? = some o) (hg : o.guard = none) (h : o.wp P a w K Q) : wpOp P ops Q i K a w := by
  unfold wpOp
  simp only [ho]
  rw [if_pos (by simp [Region.wanted, hg])]
  exact .inl h
theorem wpOp_on {i j : Nat} {b : Bool} {d : Tmp} {o oj : Oper} (ho : ops[i]? = some o) (hg : o.guard = some (j, b)) (hj : ops[j]? = some oj) (hd : oj.dst = some d) (hv : a.tmps.getD d undef = .bool b) (h : o.wp P a w K Q) : wpOp P ops Q i K a w := by
  have hlt : a.tmps[d]? = some (.bool b) := by
    rw [Array.getD_eq_getD_getElem?] at hv
    cases hx : a.tmps[d]? with
    | none => rw [hx] at hv; simp [undef] at hv
    | some x => rw [hx] at hv; simpa using hv
  unfold wpOp
  simp only [ho]
  rw [if_pos (by simp [Region.wanted, hg, yielded, hj, hd, hlt])]
  exact .inl h
theorem wpOp_off {i j : Nat} {b : Bool} {d : Tmp} {o oj : Oper} (ho : ops[i]? = some o) (hg : o.guard = some (j, b)) (hj : ops[j]? = some oj) (hd : oj.dst = some d) (hv : a.tmps.getD d undef = .bool (!b)) (h : K (a.put o.dst undef) w) : wpOp P ops Q i K a w := by
  have hlt : a.tmps[d]? = some (.bool (!b)) := by
    rw [Array.getD_eq_getD_getElem?] at hv
    cases hx : a.tmps[d]? with
    | none => rw [hx] at hv; simp [undef] at hv
    | some x => rw [hx] at hv; simpa using hv
  unfold wpOp
  simp only [ho]
  rw [if_neg (by cases b <;> simp [Region.wanted, hg, yielded, hj, hd, hlt])]
  exact h
theorem wp_val {o : Oper} {v : Value} {w' : World} (hr : (execOp a.eval o).run P w = .ok (.value v) w') (h : K (a.put o.dst v) w') : o.wp P a w K Q := by
  unfold Oper.wp; rw [hr]; exact h
theorem wp_move {o : Oper} (x : Operand) (ho : o.op = .move x ∨ o.op = .assign x) {v : Value} (hx : a.eval x = v) (h : K (a.put o.dst v) w) : o.wp P a w K Q :=
  wp_val (by rcases ho with ho | ho <;> (unfold execOp; simp only [ho, hx, Sem.run_pure])) h
theorem wp_bin {o : Oper} (op : BinOp) (t u : TypeId) (x y : Operand) (ho : o.op = .binOp op t x y u) {v1 v2 v : Value} (h1 : a.eval x = v1) (h2 : a.eval y = v2)
    (hr : (do eqGuard op t x y v1 v2; binOp op t v1 v2 : Sem Value).run P w = .ok v w) (h : K (a.put o.dst v) w) : o.wp P a w K Q :=
  wp_val (by unfold execOp; simp only [ho, h1, h2, Sem.run_bind, Sem.run_pure] at hr ⊢; rw [hr]; rfl) h
theorem wp_not {o : Oper} (t : TypeId) (x : Operand) (ho : o.op = .unOp .not t x) {b : Bool} (h1 : a.eval x = .bool b) (h : K (a.put o.dst (.bool !b)) w) : o.wp P a w K Q :=
  wp_val (by unfold execOp; simp only [ho, h1]; rfl) h
theorem wp_pick {o : Oper} (c x y : Operand) (ho : o.op = .pick c x y) {b : Bool} (hc : a.eval c = .bool b) {v : Value} (hv : (if b then a.eval x else a.eval y) = v) (h : K (a.put o.dst v) w) : o.wp P a w K Q :=
  wp_val (by unfold execOp; simp only [ho, hc]; cases b <;> (simp only [if_true, Bool.false_eq_true, if_false] at hv; simp [asBool, hv])) h
theorem wp_extract {o : Oper} (x : Operand) (k : Nat) (ho : o.op = .extract x k) {vs : Array Value} {v : Value} (hx : a.eval x = .tuple vs) (hv : vs[k]? = some v) (h : K (a.put o.dst v) w) : o.wp P a w K Q :=
  wp_val (by unfold execOp; simp only [ho, hx, Instr.extract, hv]; rfl) h
def callable (P : Program) (f : FuncId) : Bool :=
  match P.funcs[f]? with
  | some fn => !(fn.name == "runtime.NumGoroutine") && fn.body.isSome
  | none => false
theorem run_callFunc_enter {f : FuncId} {args : Array Value} {fn : Func} (hf : P.funcs[f]? = some fn) (hn : (fn.name == "runtime.NumGoroutine") = false) (hb : fn.body.isNone = false) : (callFunc f args).run P w = .ok (.enter f args) w := by
  unfold callFunc program
  simp only [Sem.run_bind]
  show ((Sem.run P (.pure P) w).andThen _) = _
  simp only [Sem.run, Result.andThen_ok, hf, hn, hb, Bool.false_eq_true, if_false]
  rfl
theorem wp_call {o : Oper} (f : FuncId) (xs : Array Operand) (ts : Array TypeId) (ho : o.op = .call { callee := .value (.func f), args := xs, argTypes := ts }) (hc : callable P f = true) {args : Array Value} (ha : xs.map a.eval = args)
    (h : Calls P f args w fun e w' => ∃ v, e = .returned v ∧ K (a.put o.dst v) w') : o.wp P a w K Q := by
  unfold Oper.wp
  have hrun : (execOp a.eval o).run P w = .ok (.enter f args) w := by
    obtain ⟨dst, op, type, pos, after, guard⟩ := o
    simp only at ho
    subst ho
    rw [execOp_call_go]
    unfold callable at hc
    cases hf : P.funcs[f]? with
    | none => rw [hf] at hc; cases hc
    | some fn =>
      rw [hf] at hc
      simp only [Bool.and_eq_true, Bool.not_eq_true'] at hc
      have hb : fn.body.isNone = false := by cases hbb : fn.body <;> simp_all
      have : #[] ++ xs.map a.eval ++ #[] = args := by simp [ha]
      rw [this]
      exact run_callFunc_enter hf hc.1 hb
  rw [hrun]
  refine Calls.mono h fun e w' ⟨v, he, hk⟩ => ?_
  subst he
  exact hk
end

/- MINE 8: the facts of a region's operations, as a list -/
structure Fact where
  p : Value → World → Prop
  mono : ∀ v w w', Le w w' → p v w → p v w'
def Fact.any : Fact := ⟨fun _ _ => True, fun _ _ _ _ h => h⟩
def Fact.is (x : Value) : Fact := ⟨fun v _ => v = x, fun _ _ _ _ h => h⟩
def Fact.rd (size n : Nat) (xs : List Value) : Fact :=
  ⟨fun v w => ∃ A c, v = .slice A n c ∧ n ≤ c ∧ Rd w w.heap.size size A n xs, fun _ _ _ hl ⟨A, c, h1, h2, h3⟩ => ⟨A, c, h1, h2, h3.up hl⟩⟩
def Fact.at (fs : List Fact) (i : Nat) : Value → World → Prop := (fs.getD i Fact.any).p
theorem act_of (a : Act) (n : Nat) (hs : a.tmps.size = n) (hd : a.defers = []) : a = ⟨((List.range n).map fun t => a.tmps.getD t undef).toArray, []⟩ := by
  obtain ⟨t, d⟩ := a
  simp only at hs hd
  subst hd
  rw [← arr_of_getD t n hs]
theorem wp_region_facts {P : Program} {ops : Array Oper} {Q : Exit → Act → World → Prop} {id : Nat} (fs : List Fact) (a0 : Act) (w0 : World) (hm : P.follows .mixedOrders = true) (hord : orderedB ops = true)
    (hsz : ∀ (t : Nat) (j : Nat), wrs ops t = [j] → t < a0.tmps.size)
    (hop : ∀ i o, ops[i]? = some o → ∀ a w, Le w0 w → a.defers = a0.defers → (∀ t, SeesAt (Fact.at fs) a0 a w t (srcOf ops i t)) →
      ∀ K : Act → World → Prop, (∀ v w', Le w w' → Fact.at fs i v w' → K (a.put o.dst v) w') → wpOp P ops Q i K a w)
    (hend : ∀ a w, Le w0 w → a.defers = a0.defers → a.tmps.size = a0.tmps.size → (∀ t, EndAt (Fact.at fs) a0 a w t (wrs ops t)) → Q .normal a w) : (Code.region id ops true).wp P Q a0 w0 :=
  wp_region_mono (Fact.at fs) a0 w0 hm (fun i v w w' hl h => (fs.getD i Fact.any).mono v w w' hl h) hord hsz hop hend
/-- every operation's slot lies in the frame: asked of the operations -/
def dstsB (ops : Array Oper) (n : Nat) : Bool := ops.all fun o => match o.dst with | some d => decide (d < n) | none => true
theorem sz_of {ops : Array Oper} {n : Nat} (h : dstsB ops n = true) : ∀ (t j : Nat), wrs ops t = [j] → t < n := by
  intro t j hw
  have hj : j ∈ wrs ops t := by rw [hw]; simp
  obtain ⟨h1, h2⟩ := List.mem_filter.1 hj
  have hlt := List.mem_range.1 h1
  unfold dstsB at h
  rw [Array.all_eq_true] at h
  have h3 := h j hlt
  have ho : ops[j]? = some ops[j] := Array.getElem?_eq_getElem hlt
  rw [ho] at h2
  have h4 : (ops[j]).dst = some t := by simpa using h2
  rw [h4] at h3
  simpa using h3
theorem mixed : Try.prog.follows .mixedOrders = true := by kernel_rfl
theorem sees_dep {ops : Array Oper} {φ : Nat → Value → World → Prop} {a0 a : Act} {w : World} {i : Nat} (hs : ∀ t, SeesAt φ a0 a w t (srcOf ops i t)) (t j : Nat) (h : srcOf ops i t = some (some j)) : φ j (a.tmps.getD t undef) w := by
  have := hs t
  rw [h] at this
  exact this
theorem sees_init {ops : Array Oper} {φ : Nat → Value → World → Prop} {a0 a : Act} {w : World} {i : Nat} (hs : ∀ t, SeesAt φ a0 a w t (srcOf ops i t)) (t : Nat) (h : srcOf ops i t = some none) : a.tmps.getD t undef = a0.tmps.getD t undef := by
  have := hs t
  rw [h] at this
  exact this

/- MINE 9: comparisons, as they run -/
theorem toList_mk (l : List UInt8) : (⟨l.toArray⟩ : ByteArray).toList = l := by rw [ByteArray.toList_eq]
section
variable {P : Program} {w : World}
theorem run_str_eql (t : TypeId) (x y : Operand) (l1 l2 : List UInt8) : (do eqGuard .eql t x y (.string ⟨l1.toArray⟩) (.string ⟨l2.toArray⟩); binOp .eql t (.string ⟨l1.toArray⟩) (.string ⟨l2.toArray⟩) : Sem Value).run P w = .ok (.bool (l1 == l2)) w := by
  simp [eqGuard, binOp, Op.stringOp, Sem.run_pure]
theorem run_str_neq (t : TypeId) (x y : Operand) (l1 l2 : List UInt8) : (do eqGuard .neq t x y (.string ⟨l1.toArray⟩) (.string ⟨l2.toArray⟩); binOp .neq t (.string ⟨l1.toArray⟩) (.string ⟨l2.toArray⟩) : Sem Value).run P w = .ok (.bool (l1 != l2)) w := by
  simp [eqGuard, binOp, Op.stringOp, Sem.run_pure, bne]
theorem run_int_eql (t : TypeId) (x y : Operand) (k : IntKind) (a b : Int) : (do eqGuard .eql t x y (.int k a) (.int k b); binOp .eql t (.int k a) (.int k b) : Sem Value).run P w = .ok (.bool (a == b)) w := by
  simp [eqGuard, binOp, Op.intCmp, Sem.run_pure]
theorem run_int_neq (t : TypeId) (x y : Operand) (k : IntKind) (a b : Int) : (do eqGuard .neq t x y (.int k a) (.int k b); binOp .neq t (.int k a) (.int k b) : Sem Value).run P w = .ok (.bool (a != b)) w := by
  simp [eqGuard, binOp, Op.intCmp, Sem.run_pure]
end
/-- a new block of constant bytes, as the conversion of a constant string leaves it -/
theorem rd_mark (w : World) (C : Array Value) (e : TypeId) (fr : Nat × Nat) (n size : Nat) (hn : C.size = n * size) : Rd (w.alloc (.cells C e fr)) (w.heap.size + 1) size (some ⟨w.heap.size, 0, none⟩) n C.toList :=
  ⟨by simpa using hn, fun _ => ⟨w.heap.size, 0, rfl, by omega, fun j u hu => by
    rw [Nat.zero_add, World.cell?_alloc_mark]
    simpa using hu⟩⟩
end Go.Proofs.Ytleolanjlhbjlaa
