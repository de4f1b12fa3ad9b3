/-
  What holds behind a piece of ghost code: rules.
-/
import Derived.Test.YtfcbdkbdalbjmaaGhV
namespace Go.Gh
set_option linter.unusedVariables false
set_option linter.unusedSimpArgs false
open Go.RowKit

section
variable {call : GCall}
def gwp (call : GCall) (c : GCode) (Q : GExit → Fr → GHeap → Prop) (fr : Fr) (H : GHeap) : Prop :=
  ∃ m e fr' H', gcode call m c fr H = some (e, fr', H') ∧ Q e fr' H'
def gthen (K : Fr → GHeap → Prop) (Q : GExit → Fr → GHeap → Prop) : GExit → Fr → GHeap → Prop
  | .normal, fr, H => K fr H
  | e, fr, H => Q e fr H
def ginBlock (id : Nat) (Q : GExit → Fr → GHeap → Prop) : GExit → Fr → GHeap → Prop
  | .exit id', fr, H => if id' = id then Q .normal fr H else Q (.exit id') fr H
  | e, fr, H => Q e fr H
def gbr : Option Bool → Prop → Prop → Prop
  | some b, A, B => (b = true → A) ∧ (b = false → B)
  | none, _, _ => False
def gone1 : Option (Value × GHeap) → (Value → GHeap → Prop) → Prop
  | some r, K => K r.1 r.2
  | none, _ => False
/-- operations in a row -/
def gws (run : Fr → GHeap → GOp → Option (Value × GHeap)) : List GOper → (Fr → GHeap → Prop) → Fr → GHeap → Prop
  | [], K, fr, H => K fr H
  | o :: r, K, fr, H => gbr (gwants fr o.guard) (gone1 (run fr H o.op) fun v H' => gws run r K (gput fr o.dst v) H') (gws run r K (gput fr o.dst undef) H)
theorem gws_ok {run : Fr → GHeap → GOp → Option (Value × GHeap)} : ∀ {l : List GOper} {K : Fr → GHeap → Prop} {fr : Fr} {H : GHeap}, gws run l K fr H → ∃ fr' H', gsteps run l fr H = some (fr', H') ∧ K fr' H'
  | [], K, fr, H, h => ⟨fr, H, rfl, h⟩
  | o :: r, K, fr, H, h => by
    simp only [gws] at h
    simp only [gsteps]
    cases hw : gwants fr o.guard with
    | none => rw [hw] at h; exact h.elim
    | some b =>
      rw [hw] at h
      cases b with
      | true =>
        have h := h.1 rfl
        simp only
        cases hr : run fr H o.op with
        | none => rw [hr] at h; exact h.elim
        | some x => rw [hr] at h; exact gws_ok h
      | false => exact gws_ok (h.2 rfl)
/-- .. behind what may come in any order, nothing hidden -/
def gwq (call : GCall) : List (Bool × GOper) → (Fr → GHeap → Prop) → Fr → GHeap → Prop
  | [], K, fr, H => K fr H
  | (e, o) :: r, K, fr, H => gbr (gwants fr o.guard) ((e = true → aims fr [] o.op = true) ∧ gone1 (gdo call fr H o.op) fun v H' => gwq call r K (gput fr o.dst v) H') (gwq call r K (gput fr o.dst undef) H)
theorem gwq_ok : ∀ {l : List (Bool × GOper)} {K : Fr → GHeap → Prop} {fr : Fr} {H : GHeap}, gwq call l K fr H → ∃ fr' H', gpost call [] l fr H = some (fr', H') ∧ K fr' H'
  | [], K, fr, H, h => ⟨fr, H, rfl, h⟩
  | (e, o) :: r, K, fr, H, h => by
    simp only [gwq] at h
    simp only [gpost]
    cases hw : gwants fr o.guard with
    | none => rw [hw] at h; exact h.elim
    | some b =>
      rw [hw] at h
      cases b with
      | true =>
        obtain ⟨he, h⟩ := h.1 rfl
        simp only
        rw [if_neg (by cases e <;> simp_all)]
        cases hr : gdo call fr H o.op with
        | none => rw [hr] at h; exact h.elim
        | some x => rw [hr] at h; exact gwq_ok h
      | false => exact gwq_ok (h.2 rfl)
variable {Q : GExit → Fr → GHeap → Prop} {fr : Fr} {H : GHeap}
theorem gwp_mono {c : GCode} {Q' : GExit → Fr → GHeap → Prop} (h : gwp call c Q fr H) (k : ∀ e fr H, Q e fr H → Q' e fr H) : gwp call c Q' fr H := by
  obtain ⟨m, e, f1, H1, h1, h2⟩ := h
  exact ⟨m, e, f1, H1, h1, k _ _ _ h2⟩
theorem gwp_skip (h : Q .normal fr H) : gwp call .skip Q fr H := ⟨0, _, _, _, rfl, h⟩
theorem gwp_exit {id : Nat} (h : Q (.exit id) fr H) : gwp call (.exit id) Q fr H := ⟨0, _, _, _, rfl, h⟩
theorem gwp_ret (h : Q .ret fr H) : gwp call .ret Q fr H := ⟨0, _, _, _, rfl, h⟩
theorem gwp_line {l : List GOper} (h : gws (gdo call) l (Q .normal) fr H) : gwp call (.line l) Q fr H := by
  obtain ⟨f1, H1, h1, h2⟩ := gws_ok h
  exact ⟨0, .normal, f1, H1, by simp only [gcode]; rw [h1], h2⟩
theorem gwp_any {pre : List GOper} {post : List (Bool × GOper)} (h : gws (gdoM call) pre (gwq call post (Q .normal)) fr H) : gwp call (.any [] pre post) Q fr H := by
  obtain ⟨f1, H1, h1, h2⟩ := gws_ok h
  obtain ⟨f2, H2, h3, h4⟩ := gwq_ok h2
  refine ⟨0, .normal, f2, H2, ?_, h4⟩
  simp only [gcode, gany, hidden, List.flatMap_nil, List.filter_nil, ghide]
  rw [h1]
  simp only [gback]
  rw [h3]
/-- .. what is hidden: its parts -/
theorem gwp_hide {hide : List GArg} {pre : List GOper} {post : List (Bool × GOper)} {hid : List Nat} {f1 : Fr} {H1 : GHeap} (hh : (hidden fr hide).filter (· < H.len) = hid) (h1 : gsteps (gdoM call) pre fr (ghide H hid) = some (f1, H1))
    (h2 : ∃ f2 H2, gpost call hid post f1 (gback H H1 hid) = some (f2, H2) ∧ Q .normal f2 H2) : gwp call (.any hide pre post) Q fr H := by
  obtain ⟨f2, H2, h3, h4⟩ := h2
  refine ⟨0, .normal, f2, H2, ?_, h4⟩
  simp only [gcode, gany]
  rw [hh, h1]
  simp only
  rw [h3]
theorem gwp_seq {a b : GCode} (h : gwp call a (gthen (gwp call b Q) Q) fr H) : gwp call (.seq a b) Q fr H := by
  obtain ⟨m, e, f1, H1, h1, h2⟩ := h
  cases e with
  | normal =>
    obtain ⟨m', e2, f2, H2, h3, h4⟩ := h2
    refine ⟨max m m', e2, f2, H2, ?_, h4⟩
    simp only [gcode]
    rw [gcode_mono (CLe.refl call) (Nat.le_max_left m m') _ _ _ _ h1]
    exact gcode_mono (CLe.refl call) (Nat.le_max_right m m') _ _ _ _ h3
  | exit id => exact ⟨m, _, f1, H1, by simp only [gcode]; rw [h1], h2⟩
  | ret => exact ⟨m, _, f1, H1, by simp only [gcode]; rw [h1], h2⟩
theorem gwp_cond {c : GArg} {a b : GCode} {t : Bool} (hc : c.ev fr = some (.bool t)) (h1 : t = true → gwp call a Q fr H) (h2 : t = false → gwp call b Q fr H) : gwp call (.cond c a b) Q fr H := by
  cases t with
  | true =>
    obtain ⟨m, e, f1, H1, h3, h4⟩ := h1 rfl
    exact ⟨m, e, f1, H1, by simp only [gcode]; rw [hc]; exact h3, h4⟩
  | false =>
    obtain ⟨m, e, f1, H1, h3, h4⟩ := h2 rfl
    exact ⟨m, e, f1, H1, by simp only [gcode]; rw [hc]; exact h3, h4⟩
theorem gwp_cond' {c : GArg} {a b : GCode} (h : match c.ev fr with
    | some (.bool t) => (t = true → gwp call a Q fr H) ∧ (t = false → gwp call b Q fr H)
    | _ => False) : gwp call (.cond c a b) Q fr H := by
  split at h
  · rename_i t ht
    exact gwp_cond ht h.1 h.2
  · exact h.elim
/-- the rest of the code out of sight -/
theorem gwp_seq_k {a b : GCode} (h : ∀ K : Fr → GHeap → Prop, (∀ fr H, gwp call b Q fr H → K fr H) → gwp call a (gthen K Q) fr H) : gwp call (.seq a b) Q fr H := gwp_seq (h _ fun _ _ h => h)
theorem gwp_block {id : Nat} {a : GCode} (h : gwp call a (ginBlock id Q) fr H) : gwp call (.block id a) Q fr H := by
  obtain ⟨m, e, f1, H1, h1, h2⟩ := h
  cases e with
  | normal => exact ⟨m, _, f1, H1, by simp only [gcode]; rw [h1], h2⟩
  | ret => exact ⟨m, _, f1, H1, by simp only [gcode]; rw [h1], h2⟩
  | exit id' =>
    by_cases hid : id' = id
    · have h2 : (if id' = id then Q .normal f1 H1 else Q (.exit id') f1 H1) := h2
      rw [if_pos hid] at h2
      exact ⟨m, _, f1, H1, by simp only [gcode]; rw [h1]; simp only; rw [if_pos hid], h2⟩
    · have h2 : (if id' = id then Q .normal f1 H1 else Q (.exit id') f1 H1) := h2
      rw [if_neg hid] at h2
      exact ⟨m, _, f1, H1, by simp only [gcode]; rw [h1]; simp only; rw [if_neg hid], h2⟩
/-- a loop: 'I k': at most k rounds more are begun -/
theorem gwp_loop {a : GCode} (I : Nat → Fr → GHeap → Prop) (hs : ∀ k fr H, I k fr H → gwp call a (gthen (fun fr H => ∃ j, j < k ∧ I j fr H) Q) fr H) (k : Nat) (h : I k fr H) : gwp call (.loop a) Q fr H := by
  have key : ∀ k fr H, I k fr H → ∃ m n e fr' H', gloop (gcode call m a) n fr H = some (e, fr', H') ∧ Q e fr' H' := by
    intro k
    induction k using Nat.strongRecOn with
    | _ k ih =>
      intro fr H h
      obtain ⟨m, e, f1, H1, h1, h2⟩ := hs k fr H h
      cases e with
      | normal =>
        obtain ⟨j, hj, hI⟩ := h2
        obtain ⟨m', n, e2, f2, H2, h3, h4⟩ := ih j hj _ _ hI
        refine ⟨max m m', n + 1, e2, f2, H2, ?_, h4⟩
        simp only [gloop]
        rw [gcode_mono (CLe.refl call) (Nat.le_max_left m m') _ _ _ _ h1]
        exact gloop_mono (gcode_mono (CLe.refl call) (Nat.le_max_right m m') a) _ _ (Nat.le_refl _) _ _ _ h3
      | exit id => exact ⟨m, 1, _, f1, H1, by simp only [gloop]; rw [h1], h2⟩
      | ret => exact ⟨m, 1, _, f1, H1, by simp only [gloop]; rw [h1], h2⟩
  obtain ⟨m, n, e, f1, H1, h1, h2⟩ := key k fr H h
  refine ⟨max m n, e, f1, H1, ?_, h2⟩
  simp only [gcode]
  exact gloop_mono (gcode_mono (CLe.refl call) (Nat.le_max_left m n) a) _ _ (Nat.le_max_right m n) _ _ _ h1
end
/-- a function's body -/
def gfin (rets : List GRet) (R : Value → GHeap → Prop) : GExit → Fr → GHeap → Prop
  | .normal, fr, H | .ret, fr, H => ∃ l, gresults fr H rets = some l ∧ R (gone l) H
  | _, _, _ => False
theorem gbody_of {call : GCall} {g : GFun} {args : List Value} {H : GHeap} {R : Value → GHeap → Prop} (h : gwp call g.body (gfin g.rets R) (frameOf 0 args .nil) H) : ∃ m v H', gbody call m g args H = some (v, H') ∧ R v H' := by
  obtain ⟨m, e, f1, H1, h1, h2⟩ := h
  cases e with
  | normal =>
    obtain ⟨l, h3, h4⟩ := h2
    exact ⟨m, gone l, H1, by unfold gbody; rw [h1]; simp only; rw [h3]; rfl, h4⟩
  | ret =>
    obtain ⟨l, h3, h4⟩ := h2
    exact ⟨m, gone l, H1, by unfold gbody; rw [h1]; simp only; rw [h3]; rfl, h4⟩
  | exit id => exact h2.elim
theorem gev_of {G : FuncId → Option GEnt} {f : FuncId} {g : GFun} (hG : G f = some (.fn g)) {args : List Value} {H : GHeap} {R : Value → GHeap → Prop} (h : gwp (gev G) g.body (gfin g.rets R) (frameOf 0 args .nil) H) : ∃ v H', gev G f args H = some (v, H') ∧ R v H' := by
  obtain ⟨m, v, H', h1, h2⟩ := gbody_of h
  exact ⟨v, H', gev_fn hG h1, h2⟩
end Go.Gh
