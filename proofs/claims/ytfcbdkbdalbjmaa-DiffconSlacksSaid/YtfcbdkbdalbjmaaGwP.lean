/-
  A law's call, from what its ghost call gives: for any arguments that read as data.
-/
import Derived.Test.YtfcbdkbdalbjmaaGwO
import Derived.OpenShut
import Derived.Carry
import Derived.ChangeOld
import Derived.WideShapes
namespace Go.Gh
set_option linter.unusedVariables false
set_option linter.unusedSimpArgs false
open Go.RowKit Go.WideShapes Go.ChangeShapes

/-- one argument -/
def RdV (P : Program) (H : GHeap) (D : Nat) (t : TypeId) (gv : Value) : Prop :=
  match P.underlying t with
  | some (.struct _) => ∃ gs : List Value, gv = .agg gs.toArray ∧ Rdb P H D t gs
  | _ => Rdb P H D t [gv]
def RdVs (P : Program) (H : GHeap) (D : Nat) : List TypeId → List Value → Prop
  | [], gvs => gvs = []
  | t :: ts, gvs => ∃ gv r, gvs = gv :: r ∧ RdV P H D t gv ∧ RdVs P H D ts r
section
variable {P : Program} {W : World} {T : Type} {enc : TypeId × Value → T}
theorem RdV.ext {H H' : GHeap} (hw : H.wf) (he : Ext H H') {D : Nat} {t : TypeId} {gv : Value} (h : RdV P H D t gv) : RdV P H' D t gv := by
  unfold RdV at h ⊢
  split at h
  · obtain ⟨gs, k1, k2⟩ := h; exact ⟨gs, k1, k2.ext hw he⟩
  · exact Rdb.ext hw he _ _ _ h
theorem open_val {r : _root_.Go.Reach} {base : Nat} {D : Nat} {t : TypeId} {v : Value} {d : DataW T} {p : List MemPlace} (h : DataW.Trod enc P W 0 (fun _ => true) true t v d p) (hv : Value.okWide P W r base t v) (hok : okT P D t = true) {ι : Inj} {H : GHeap} (hO : Opn P W ι H) :
    ∃ ι' H' gv, Opn P W ι' H' ∧ ι.le ι' ∧ Ext H H' ∧ VR ι' gv v ∧ RdV P H' D t gv := by
  obtain ⟨fuel, hf⟩ := h
  obtain ⟨ι1, H1, gs, a1, a2, a3, a4, a5, a6, a7⟩ := opens_trod D fuel t _ _ hf hok ι H hO
  refine ⟨ι1, H1, ?_⟩
  cases ht : P.underlying t with
  | none => cases D <;> simp [okT, ht] at hok
  | some u =>
    have one : v.cells = #[v] → ∃ gv, Opn P W ι1 H1 ∧ ι.le ι1 ∧ Ext H H1 ∧ VR ι1 gv v ∧ Rdb P H1 D t [gv] := by
      intro hc
      rw [hc] at a4
      have hl : gs.length = 1 := a4.1
      obtain ⟨gv, rfl⟩ := List.length_eq_one_iff.1 hl
      obtain ⟨v', r, e, k1, k2⟩ := a4.cons_inv
      simp at e
      obtain ⟨rfl, rfl⟩ := e
      exact ⟨gv, a1, a2, a3, k1, a6⟩
    cases u with
    | struct fs =>
      obtain ⟨cs, rfl, _⟩ := okWide_struct ht hv
      refine ⟨.agg gs.toArray, a1, a2, a3, ?_, ?_⟩
      · have h4 : VRs ι1 gs cs.toList := a4
        exact VR.agg (by simpa using h4.1) fun j h1 h2 => by
          have := h4.arr j h1 (by simpa using h2)
          simpa using this
      · unfold RdV; rw [ht]; exact ⟨gs, rfl, a6⟩
    | int k =>
      obtain ⟨n, rfl⟩ := okWide_int ht hv
      obtain ⟨gv, k1, k2, k3, k4, k5⟩ := one rfl
      exact ⟨gv, k1, k2, k3, k4, by unfold RdV; rw [ht]; exact k5⟩
    | string =>
      obtain ⟨s, rfl⟩ := okWide_string ht hv
      obtain ⟨gv, k1, k2, k3, k4, k5⟩ := one rfl
      exact ⟨gv, k1, k2, k3, k4, by unfold RdV; rw [ht]; exact k5⟩
    | slice e =>
      obtain ⟨a, l, c, rfl⟩ := okWide_slice ht hv
      obtain ⟨gv, k1, k2, k3, k4, k5⟩ := one rfl
      exact ⟨gv, k1, k2, k3, k4, by unfold RdV; rw [ht]; exact k5⟩
    | bool =>
      obtain ⟨b, rfl⟩ := okWide_bool ht hv
      obtain ⟨gv, k1, k2, k3, k4, k5⟩ := one rfl
      exact ⟨gv, k1, k2, k3, k4, by unfold RdV; rw [ht]; exact k5⟩
    | _ => cases D <;> simp [okT, ht] at hok
theorem open_args {r : _root_.Go.Reach} {base : Nat} {D : Nat} : ∀ (ts : List TypeId) (vs : List Value) (ds : List (DataW T)) (p : List MemPlace), DataW.TrodAll enc P W 0 (fun _ => true) true ts vs ds p →
    (∀ (j : Nat) t v, ts[j]? = some t → vs[j]? = some v → Value.okWide P W r base t v) → ts.all (okT P D) = true → ∀ ι H, Opn P W ι H → ∃ ι' H' gvs, Opn P W ι' H' ∧ ι.le ι' ∧ Ext H H' ∧ VRs ι' gvs vs ∧ RdVs P H' D ts gvs
  | [], vs, ds, p, h, _, _, ι, H, hO => by
    obtain ⟨rfl, rfl, rfl⟩ : vs = [] ∧ ds = [] ∧ p = [] := by
      cases vs <;> cases ds <;> simp_all [DataW.TrodAll]
    exact ⟨ι, H, [], hO, Inj.le.refl _, Ext.refl _, VRs.nil, rfl⟩
  | t :: ts, vs, ds, p, h, hv, hok, ι, H, hO => by
    obtain ⟨v, vs, d, ds, p, q, rfl, rfl, rfl, h1, h2⟩ := trodAll_cons h
    simp only [List.all_cons, Bool.and_eq_true] at hok
    obtain ⟨ι1, H1, gv, a1, a2, a3, a4, a5⟩ := open_val h1 (hv 0 t v rfl rfl) hok.1 hO
    obtain ⟨ι2, H2, gvs, b1, b2, b3, b4, b5⟩ := open_args ts vs ds q h2 (fun j t' v' k1 k2 => hv (j + 1) t' v' k1 k2) hok.2 ι1 H1 a1
    exact ⟨ι2, H2, gv :: gvs, b1, a2.trans b2, a3.trans b3, b4.cons (a4.mono b2), gv, gvs, rfl, a5.ext a1.wf b3, b5⟩
theorem shut_args (hl : laidOutB P = true) {W' : World} (hb : Below W.heap.size W W') : ∀ (ts : List TypeId) (vs : List Value) (ds : List (DataW T)) (p : List MemPlace), DataW.TrodAll enc P W 0 (fun _ => true) true ts vs ds p →
    ts.all (fun t => P.readableRec t && decide (t < P.types.size)) = true → DataW.TrodAll enc P W' 0 (fun b => decide (b < W.heap.size)) true ts vs ds p
  | [], vs, ds, p, h, _ => by
    obtain ⟨rfl, rfl, rfl⟩ : vs = [] ∧ ds = [] ∧ p = [] := by
      cases vs <;> cases ds <;> simp_all [DataW.TrodAll]
    rfl
  | t :: ts, vs, ds, p, h, ht => by
    obtain ⟨v, vs, d, ds, p, q, rfl, rfl, rfl, h1, h2⟩ := trodAll_cons h
    simp only [List.all_cons, Bool.and_eq_true, decide_eq_true_eq] at ht
    refine trodAll_cons_mk (Below.trod hl ht.1.1 ht.1.2 h1 hb fun x hx => ?_) (shut_args hl hb ts vs ds q h2 ht.2)
    obtain ⟨n, hn⟩ := h1
    exact DataW.trod_lt n t _ _ hn x hx
theorem opn_nil (hg : ∀ g, gOn P g = false) (W : World) : Opn P W (fun _ => none) ⟨.nil, 0, 0⟩ :=
  ⟨⟨Nat.le_refl _, fun i => by simp [GHeap.obj, Tr.get_nil]⟩, rfl, ⟨Nat.le_refl _, fun i l e => (by cases e), fun i l o e => (by cases e), fun i l o j l' o' e => (by cases e), fun g h => by rw [hg] at h; cases h⟩, fun _ _ => rfl⟩
/-- a law's call -/
theorem law_calls (hb : szK P P.rt.byte = some 1) (hmix : P.follows .mixedOrders = true) {G : FuncId → Option GEnt} (hG : GOk P G) {f : FuncId} {g : GFun} (hf : G f = some (.fn g)) {D : Nat} {r : _root_.Go.Reach} {base : Nat}
    {ts : List TypeId} {vs : List Value} {ds : List (DataW T)} {p : List MemPlace} (h : DataW.TrodAll enc P W 0 (fun _ => true) true ts vs ds p) (hv : ∀ (j : Nat) t v, ts[j]? = some t → vs[j]? = some v → Value.okWide P W r base t v) (hok : ts.all (okT P D) = true)
    {ι : Inj} {H : GHeap} (hO : Opn P W ι H) (hlaw : ∀ H' gvs, Ext H H' → H'.wf → RdVs P H' D ts gvs → ∃ v H2, gev G f gvs H' = some (v, H2) ∧ v = .bool true) :
    Calls P f vs.toArray W fun e w' => e = .returned (.bool true) ∧ Below W.heap.size W w' := by
  obtain ⟨ι1, H1, gvs, a1, a2, a3, a4, a5⟩ := open_args ts vs ds p h hv hok ι H hO
  obtain ⟨v, H2, k1, rfl⟩ := hlaw H1 gvs a3 a1.wf a5
  obtain ⟨n, k1⟩ := gev_some.1 k1
  exact law_of hb hmix hG hf k1 a1.wf a1.hr a4 a1.fresh
end
end Go.Gh
