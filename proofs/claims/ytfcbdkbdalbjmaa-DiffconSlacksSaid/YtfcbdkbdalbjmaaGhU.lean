/-
  Functions and calls do what their ghost runs do.
-/
import Derived.Test.YtfcbdkbdalbjmaaGhT
namespace Go.Gh
set_option linter.unusedVariables false
set_option linter.unusedSimpArgs false
open Go.RowKit

section
variable {P : Program} {call : GCall}
def resOf (tmps : Array Value) : ResultVar → Sem Value
  | .tmp t => pure (tmps.getD t undef)
  | .cell a t => do loadVar t (← asAddr (tmps.getD a undef))
theorem results_ok {base lim : Nat} {ι : Inj} {H : GHeap} {w : World} {fr : Fr} {a : Act} (h : HR P base lim ι H.t w) (hfr : FR ι fr a) : ∀ (rs : List ResultVar) (gr : List GRet) (l : List Value), cRets P rs = some gr → gresults fr H gr = some l →
    ∃ l', (rs.mapM (resOf a.tmps)).run P w = .ok l' w ∧ VRs ι l l'
  | [], gr, l, hc, hg => by
    simp only [cRets] at hc
    cases hc
    simp only [gresults] at hg
    cases hg
    exact ⟨[], by simp, .nil⟩
  | .tmp t :: r, gr, l, hc, hg => by
    simp only [cRets, Option.map_eq_some_iff] at hc
    obtain ⟨gr', hc', rfl⟩ := hc
    simp only [gresults] at hg
    split at hg
    · rename_i v l0 hv hl
      cases hg
      obtain ⟨l', h1, h2⟩ := results_ok h hfr r _ _ hc' hl
      obtain ⟨v', h3, h4⟩ := hfr.2 _ _ hv
      refine ⟨v' :: l', ?_, VRs.cons h4 h2⟩
      have h5 : (resOf a.tmps (.tmp t)).run P w = .ok v' w := by simp [resOf, h3]
      simp [List.mapM_cons, h5, h1]
    · cases hg
  | .cell x t :: r, gr, l, hc, hg => by
    simp only [cRets] at hc
    split at hc
    · rename_i k gr' hk hc'
      cases hc
      simp only [gresults] at hg
      split at hg
      · rename_i v l0 hv hl
        cases hg
        obtain ⟨l', h1, h2⟩ := results_ok h hfr r _ _ hc' hl
        simp only [Option.bind_eq_some_iff] at hv
        obtain ⟨p, hp, hv⟩ := hv
        obtain ⟨p', h3, h4⟩ := hfr.2 _ _ hp
        obtain ⟨v', h5, h6⟩ := gld_ok h hk h4 hv
        have hptr : ∃ b, p' = .pointer (some b) := by
          unfold gld at hv
          split at hv
          · obtain ⟨l, _, rfl⟩ := h4.ptr_inv; exact ⟨_, rfl⟩
          · cases hv
        obtain ⟨b, rfl⟩ := hptr
        refine ⟨v' :: l', ?_, VRs.cons h6 h2⟩
        have h7 : (resOf a.tmps (.cell x t)).run P w = .ok v' w := by
          rw [← h5]
          simp [resOf, h3, asAddr, Instr.loadAt, Instr.sureAddr]
        simp [List.mapM_cons, h7, h1]
      · cases hg
    · cases hc
theorem one_ok {ι : Inj} {l l' : List Value} (h : VRs ι l l') : VR ι (gone l) (if hh : l'.toArray.size = 1 then l'.toArray[0] else .tuple l'.toArray) := by
  have hl := h.1
  match l, l' with
  | [], [] => exact .tup rfl (by simp)
  | [v], [v'] => simpa using (h.cons_inv.elim fun _ hh => hh.elim fun _ hh => by obtain ⟨e, k, _⟩ := hh; cases e; exact k)
  | v :: u :: r, l' =>
    have : ¬ l'.toArray.size = 1 := by simp only [List.length_cons] at hl; simp; omega
    rw [dif_neg this]
    exact VR.tup_of h
theorem frameOf_get : ∀ (args : List Value) (i : Nat) (fr : Fr) (n : Nat), (frameOf i args fr).get n = if i ≤ n ∧ n < i + args.length then args[n - i]? else fr.get n
  | [], i, fr, n => by simp only [frameOf, List.length_nil, Nat.add_zero]; rw [if_neg (by omega)]
  | v :: r, i, fr, n => by
    simp only [frameOf]
    rw [frameOf_get r (i + 1) (fr.set i v) n]
    by_cases h1 : i + 1 ≤ n ∧ n < i + 1 + r.length
    · rw [if_pos h1, if_pos (by simp; omega), show n - i = (n - (i + 1)) + 1 by omega]; rfl
    · rw [if_neg h1]
      by_cases h2 : i = n
      · subst h2
        rw [if_pos (by simp)]
        simp
      · rw [Tr.get_set_ne _ _ h2, if_neg (by simp; omega)]
theorem frame_ok {ι : Inj} {args : List Value} {args' : Array Value} (h : VRs ι args args'.toList) (k : Nat) : FR ι (frameOf 0 args .nil) { tmps := args' ++ Array.replicate k undef, defers := [] } := by
  refine ⟨rfl, fun n v hv => ?_⟩
  rw [frameOf_get] at hv
  split at hv
  · rw [Nat.sub_zero] at hv
    obtain ⟨v', h1, h2⟩ := h.2 n v hv
    refine ⟨v', ?_, h2⟩
    rw [Array.getElem?_toList] at h1
    have := (Array.getElem?_eq_some_iff.1 h1).1
    simp only
    rw [Array.getElem?_append_left this]; exact h1
  · exact absurd hv (by rw [Tr.get_nil]; simp)
theorem dstsOk_mono {n k : Nat} (hnk : n ≤ k) : ∀ (c : Code), dstsOk n c = true → dstsOk k c = true := by
  intro c
  induction c with
  | region id ops draw =>
    intro h
    simp only [dstsOk, Array.all_eq_true_iff_forall_mem] at h ⊢
    intro o ho
    have := h o ho
    split at this
    · rename_i d hd; exact decide_eq_true (Nat.lt_of_lt_of_le (of_decide_eq_true this) hnk)
    · rfl
  | seq a b iha ihb => intro h; simp only [dstsOk, Bool.and_eq_true] at h ⊢; exact ⟨iha h.1, ihb h.2⟩
  | cond c a b iha ihb => intro h; simp only [dstsOk, Bool.and_eq_true] at h ⊢; exact ⟨iha h.1, ihb h.2⟩
  | block id a iha => intro h; simp only [dstsOk] at h ⊢; exact iha h
  | loop a iha => intro h; simp only [dstsOk] at h ⊢; exact iha h
  | _ => intro _; rfl
theorem callFunc_enter {f : FuncId} {fn : Func} {c : Code} (hf : P.funcs[f]? = some fn) (hname : (fn.name == "runtime.NumGoroutine") = false) (hb : fn.body = some c) (args : Array Value) (w : World) :
    (callFunc f args).run P w = .ok (.enter f args) w := by
  have h1 : fn.name ≠ "runtime.NumGoroutine" := by simpa using hname
  simp [callFunc, hf, h1, hb]
/-- the functions' code is the program's -/
def GOk (P : Program) (G : FuncId → Option GEnt) : Prop :=
  ∀ f, (∀ g, (G f = some (.fn g) ∨ G f = some (.pure g)) → ∃ fn, P.funcs[f]? = some fn ∧ cFun P fn = some g) ∧
    ∀ g, G f = some (.twin g) → ∀ (as : Array Value) (w : World), (callFunc f as).run P w = .ok (.enter g as) w ∧ (callFunc g as).run P w = .ok (.enter g as) w
theorem cFun_some {fn : Func} {g : GFun} (h : cFun P fn = some g) : ∃ c, (fn.name == "runtime.NumGoroutine") = false ∧ fn.body = some c ∧ dstsOk fn.ntmps c = true ∧ cRets P fn.results.toList = some g.rets ∧ g.body = cCode P c := by
  unfold cFun at h
  split at h
  · cases h
  · rename_i hn
    split at h
    · cases h
    · rename_i c hc
      split at h
      · rename_i hd
        simp only [Option.map_eq_some_iff] at h
        obtain ⟨r, hr, rfl⟩ := h
        exact ⟨c, by simpa using hn, hc, hd, hr, rfl⟩
      · cases h
theorem gbody_fwd (hcall : CallOk P call) {m : Nat} {g : GFun} {args : List Value} {H H' : GHeap} {v : Value} (hw : H.wf) (h : gbody call m g args H = some (v, H')) : Fwd H H' := by
  unfold gbody at h
  split at h
  · rename_i fr H1 h1
    simp only [Option.map_eq_some_iff, Prod.mk.injEq] at h
    obtain ⟨l, _, _, rfl⟩ := h
    exact gcode_fwd hcall m _ _ _ _ _ _ hw h1
  · rename_i fr H1 h1
    simp only [Option.map_eq_some_iff, Prod.mk.injEq] at h
    obtain ⟨l, _, _, rfl⟩ := h
    exact gcode_fwd hcall m _ _ _ _ _ _ hw h1
  · cases h
theorem gbody_ok (hcall : CallOk P call) (hb : szK P P.rt.byte = some 1) (hmix : P.follows .mixedOrders = true) {m : Nat} {f : FuncId} {fn : Func} (hfn : P.funcs[f]? = some fn) {g : GFun} (hg : cFun P fn = some g) {args : List Value} {H H' : GHeap} {v : Value} (h : gbody call m g args H = some (v, H'))
    {base : Nat} {ι : Inj} {w : World} {args' : List Value} (hw : H.wf) (hR : HR P base H.lim ι H.t w) (ha : VRs ι args args') (hf : ∀ i, H.len ≤ i → i < H'.len → ι i = none) :
    Calls P f args'.toArray w fun e w' => ∃ v', e = .returned v' ∧ After P base ι H w v H' v' w' := by
  obtain ⟨c, hn, hbody, hd, hr, hc⟩ := cFun_some hg
  have key : ∀ e fr1 H1, gcode call m (cCode P c) (frameOf 0 args .nil) H = some (e, fr1, H1) → (e = .normal ∨ e = .ret) → (gresults fr1 H1 g.rets).map (fun l => (gone l, H1)) = some (v, H') →
      Calls P f args'.toArray w fun e w' => ∃ v', e = .returned v' ∧ After P base ι H w v H' v' w' := by
    intro e fr1 H1 h1 he hres
    simp only [Option.map_eq_some_iff, Prod.mk.injEq] at hres
    obtain ⟨l, hl, rfl, rfl⟩ := hres
    refine calls_of_wp hfn hbody ?_
    refine gcode_ok hcall hb hmix m _ c (dstsOk_mono (k := (args'.toArray ++ Array.replicate (fn.ntmps - args'.toArray.size) undef).size) (by simp; omega) c hd) base ι _ _ H H1 _ w e h1 hw hR (frame_ok (by simpa using ha) _) rfl hf _ fun a' w' hReach => ?_
    obtain ⟨ι', k1, k2, k3, k4, k5, k6⟩ := hReach
    obtain ⟨l', r1, r2⟩ := results_ok k3 k1 _ _ _ hr hl
    have hrun : (results fn a'.tmps).run P w' = .ok (if hh : l'.toArray.size = 1 then l'.toArray[0] else .tuple l'.toArray) w' := by
      have : (results fn a'.tmps) = (do let vs ← fn.results.mapM (resOf a'.tmps); pure (if h : vs.size = 1 then vs[0] else .tuple vs)) := by
        unfold results
        rfl
      rw [this, Array.mapM_eq_mapM_toList]
      simp [r1]
    have hfin : a'.defers = [] ∧ ∃ v0, (results fn a'.tmps).run P w' = .ok v0 w' ∧ ∃ v', Ending.returned v0 = .returned v' ∧ After P base ι H w (gone l) H1 v' w' :=
      ⟨k1.1, _, hrun, _, rfl, ι', one_ok r2, k3, k4, k5, k6⟩
    rcases he with rfl | rfl
    · exact hfin
    · exact hfin
  unfold gbody at h
  rw [hc] at h
  split at h
  · rename_i fr1 H1 h1
    exact key _ _ _ h1 (.inl rfl) h
  · rename_i fr1 H1 h1
    exact key _ _ _ h1 (.inr rfl) h
  · cases h
/-! ### functions that take and give no memory -/
theorem VR.lit_inv {ι : Inj} {v v' : Value} (h : VR ι v v') (hl : litFlat v = true) : v' = v := by
  cases h with
  | lit _ => rfl
  | _ => simp [litFlat] at hl
theorem VRs.lit_inv {ι : Inj} {l l' : List Value} (h : VRs ι l l') (hl : ∀ v ∈ l, ∀ v', VR ι v v' → v' = v) : l' = l := by
  refine List.ext_getElem h.1.symm fun j h1 h2 => ?_
  obtain ⟨v', k1, k2⟩ := h.2 j l[j] (List.getElem?_eq_getElem h2)
  rw [List.getElem?_eq_getElem h1] at k1
  cases k1
  exact hl _ (List.getElem_mem h2) _ k2
theorem VR.litOk_inv {ι : Inj} {v v' : Value} (h : VR ι v v') (hl : Gh.litOk v = true) : v' = v := by
  cases v <;> first
    | exact h.lit_inv hl
    | skip
  · rename_i cs
    obtain ⟨ds, rfl, hd⟩ := h.agg_inv
    have : ds.toList = cs.toList := hd.lit_inv fun v hv v' hvv => hvv.lit_inv (by
      simp only [Gh.litOk, Array.all_eq_true_iff_forall_mem] at hl
      exact hl v (by simpa using hv))
    rw [Array.ext' this]
  · rename_i cs
    obtain ⟨ds, rfl, hd⟩ := h.tup_inv
    simp only [Gh.litOk, Array.isEmpty_iff] at hl
    subst hl
    have : ds.toList = [] := hd.nil_inv
    rw [show ds = #[] from Array.ext' this]
theorem VR.litVal_inv {ι : Inj} {v v' : Value} (h : VR ι v v') (hl : Gh.litVal v = true) : v' = v := by
  cases v <;> first
    | exact h.litOk_inv hl
    | skip
  · rename_i cs
    obtain ⟨ds, rfl, hd⟩ := h.tup_inv
    have : ds.toList = cs.toList := hd.lit_inv fun v hv v' hvv => hvv.litOk_inv (by
      simp only [Gh.litVal, Array.all_eq_true_iff_forall_mem] at hl
      exact hl v (by simpa using hv))
    rw [Array.ext' this]
theorem VR.litVal {ι : Inj} {v : Value} (hl : Gh.litVal v = true) : VR ι v v := by
  cases v <;> first
    | exact VR.litOk hl
    | skip
  rename_i cs
  simp only [Gh.litVal, Array.all_eq_true] at hl
  exact .tup rfl fun j h1 _ => VR.litOk (hl j h1)
theorem root_ok {base lim : Nat} {ι : Inj} {H : GHeap} {w : World} (_ : HR P base lim ι H.t w) : ∃ ι0, HR P w.heap.size (gRoot H).lim ι0 (gRoot H).t w ∧ (gRoot H).wf ∧ ∀ i, (gRoot H).len ≤ i → ι0 i = none := by
  refine ⟨fun _ => none, ⟨Nat.le_refl _, fun i l e => (by cases e), fun i l o e => (by cases e), fun i l o j l' o' e => (by cases e), fun g hg => (by simp [gOn] at hg)⟩, ⟨Nat.le_refl _, fun i => ?_⟩, fun _ _ => rfl⟩
  simp [gRoot, GHeap.obj, Tr.get_nil]
theorem gcall_ok (hb : szK P P.rt.byte = some 1) (hmix : P.follows .mixedOrders = true) {G : FuncId → Option GEnt} (hG : GOk P G) (m : Nat) : ∀ d, CallOk P (gcall G m d)
  | 0 => by intro f args H v H' h; cases h
  | d + 1 => by
    have ih := gcall_ok hb hmix hG m d
    intro f args H v H' h
    simp only [gcall] at h
    split at h
    · rename_i g hg
      obtain ⟨fn, h1, h2⟩ := (hG f).1 g (.inl hg)
      refine ⟨fun hw => gbody_fwd ih hw h, f, fun as w => ?_, fun base ι w args' hw hR ha hf => gbody_ok ih hb hmix h1 h2 h hw hR ha hf⟩
      obtain ⟨c, hn, hbody, _⟩ := cFun_some h2
      exact callFunc_enter h1 hn hbody as w
    · rename_i g hg
      obtain ⟨fn, h1, h2⟩ := (hG f).1 g (.inr hg)
      split at h
      · rename_i hargs
        split at h
        · rename_i v0 H0 hrun
          split at h
          · rename_i hlv
            cases h
            refine ⟨fun _ => Fwd.refl _, f, fun as w => ?_, fun base ι w args' hw hR ha hf => ?_⟩
            · obtain ⟨c, hn, hbody, _⟩ := cFun_some h2
              exact callFunc_enter h1 hn hbody as w
            · obtain ⟨ι0, k1, k2, k3⟩ := root_ok hR
              have hlit : ∀ v ∈ args, litOk v = true := by simpa using hargs
              obtain rfl : args' = args := ha.lit_inv fun v hv v' hvv => hvv.litOk_inv (hlit v hv)
              have ha0 : VRs ι0 args' args' := ⟨rfl, fun j v hv => ⟨v, hv, VR.litOk (hlit v (List.mem_of_getElem? hv))⟩⟩
              refine (gbody_ok ih hb hmix h1 h2 hrun k2 k1 ha0 (fun i hi _ => k3 i hi)).mono fun e w' hh => ?_
              obtain ⟨v', rfl, ι', r1, r2, r3, r4, r5⟩ := hh
              obtain rfl := r1.litVal_inv hlv
              exact ⟨_, rfl, ι, VR.litVal hlv, hR.le r3, r3.mono hR.low, Inj.le.refl _, fun i l e => .inl e⟩
          · cases h
        · cases h
      · cases h
    · rename_i g hg
      obtain ⟨k1, f2, k2, k3⟩ := ih g args H v H' h
      refine ⟨k1, f2, fun as w => ?_, k3⟩
      have e := ((hG f).2 g hg as w).2
      rw [k2 as w] at e
      injection e with e1
      injection e1 with e2
      rw [e2]
      exact ((hG f).2 g hg as w).1
    · cases h
/-- a ghost call of a function of the program is the program's call -/
theorem calls_of (hb : szK P P.rt.byte = some 1) (hmix : P.follows .mixedOrders = true) {G : FuncId → Option GEnt} (hG : GOk P G) {m d : Nat} {f : FuncId} {g : GFun} (hf : G f = some (.fn g)) {args : List Value} {H H' : GHeap} {v : Value} (h : gcall G m d f args H = some (v, H'))
    {base : Nat} {ι : Inj} {w : World} {args' : List Value} (hw : H.wf) (hR : HR P base H.lim ι H.t w) (ha : VRs ι args args') (hfr : ∀ i, H.len ≤ i → i < H'.len → ι i = none) :
    Calls P f args'.toArray w fun e w' => ∃ v', e = .returned v' ∧ After P base ι H w v H' v' w' := by
  cases d with
  | zero => cases h
  | succ d =>
    simp only [gcall, hf] at h
    obtain ⟨fn, h1, h2⟩ := (hG f).1 g (.inl hf)
    exact gbody_ok (gcall_ok hb hmix hG m d) hb hmix h1 h2 h hw hR ha hfr
/-- the law's call: its arguments are not written -/
theorem law_of (hb : szK P P.rt.byte = some 1) (hmix : P.follows .mixedOrders = true) {G : FuncId → Option GEnt} (hG : GOk P G) {m d : Nat} {f : FuncId} {g : GFun} (hf : G f = some (.fn g)) {args : List Value} {H H' : GHeap} {b : Bool} (h : gcall G m d f args H = some (.bool b, H'))
    {ι : Inj} {w : World} {args' : List Value} (hw : H.wf) (hR : HR P w.heap.size H.lim ι H.t w) (ha : VRs ι args args') (hfr : ∀ i, H.len ≤ i → ι i = none) :
    Calls P f args'.toArray w fun e w' => e = .returned (.bool b) ∧ Below w.heap.size w w' := by
  refine (calls_of hb hmix hG hf h hw hR ha (fun i hi _ => hfr i hi)).mono fun e w' hh => ?_
  obtain ⟨v', rfl, ι', r1, r2, r3, r4, r5⟩ := hh
  rw [r1.bool_inv]
  exact ⟨rfl, r3⟩
end
end Go.Gh
