/-
  The ghost machine without a bound on its steps, and what holds behind a piece of code.
-/
import Derived.Test.YtfcbdkbdalbjmaaGhU
namespace Go.Gh
set_option linter.unusedVariables false
set_option linter.unusedSimpArgs false
open Go.RowKit

def CLe (call call' : GCall) : Prop := ∀ f args H r, call f args H = some r → call' f args H = some r
theorem CLe.refl (call : GCall) : CLe call call := fun _ _ _ _ h => h
section
variable {call call' : GCall}
theorem gdo_mono (h : CLe call call') {fr : Fr} {H : GHeap} {op : GOp} {r : Value × GHeap} (hd : gdo call fr H op = some r) : gdo call' fr H op = some r := by
  unfold gdo at hd ⊢
  split at hd
  · simp only [Option.bind_eq_some_iff] at hd ⊢
    obtain ⟨⟨g, args⟩, h1, h2⟩ := hd
    exact ⟨(g, args), h1, h _ _ _ _ h2⟩
  · exact hd
theorem gdoM_mono (h : CLe call call') {fr : Fr} {H : GHeap} {op : GOp} {r : Value × GHeap} (hd : gdoM call fr H op = some r) : gdoM call' fr H op = some r := by
  unfold gdoM at hd ⊢
  split at hd
  · simp only [Option.bind_eq_some_iff, Option.map_eq_some_iff] at hd ⊢
    obtain ⟨⟨g, args⟩, h1, ⟨v, H1⟩, h2, h3⟩ := hd
    exact ⟨(g, args), h1, (v, H1), h _ _ _ _ h2, h3⟩
  · exact hd
theorem gsteps_mono {run run' : Fr → GHeap → GOp → Option (Value × GHeap)} (h : ∀ fr H op r, run fr H op = some r → run' fr H op = some r) : ∀ (l : List GOper) (fr : Fr) (H : GHeap) (r : Fr × GHeap), gsteps run l fr H = some r → gsteps run' l fr H = some r
  | [], fr, H, r, hd => hd
  | o :: l, fr, H, r, hd => by
    simp only [gsteps] at hd ⊢
    split at hd
    · split at hd
      · rename_i v H1 h1
        rw [h _ _ _ _ h1]
        exact gsteps_mono h l _ _ _ hd
      · cases hd
    · exact gsteps_mono h l _ _ _ hd
    · cases hd
theorem gpost_mono (h : CLe call call') (hid : List Nat) : ∀ (l : List (Bool × GOper)) (fr : Fr) (H : GHeap) (r : Fr × GHeap), gpost call hid l fr H = some r → gpost call' hid l fr H = some r
  | [], fr, H, r, hd => hd
  | (e, o) :: l, fr, H, r, hd => by
    simp only [gpost] at hd ⊢
    split at hd
    · split at hd
      · cases hd
      · rename_i hne
        rw [if_neg hne]
        split at hd
        · rename_i v H1 h1
          rw [gdo_mono h h1]
          exact gpost_mono h hid l _ _ _ hd
        · cases hd
    · exact gpost_mono h hid l _ _ _ hd
    · cases hd
theorem gany_mono (h : CLe call call') {hide : List GArg} {pre : List GOper} {post : List (Bool × GOper)} {fr : Fr} {H : GHeap} {r : Fr × GHeap} (hd : gany call hide pre post fr H = some r) : gany call' hide pre post fr H = some r := by
  unfold gany at hd ⊢
  split at hd
  · rename_i f1 H1 h1
    rw [gsteps_mono (fun _ _ _ _ => gdoM_mono h) _ _ _ _ h1]
    exact gpost_mono h _ _ _ _ _ hd
  · cases hd
theorem gloop_mono {body body' : Fr → GHeap → GRes} (h : ∀ fr H r, body fr H = some r → body' fr H = some r) : ∀ (n n' : Nat), n ≤ n' → ∀ (fr : Fr) (H : GHeap) (r : GExit × Fr × GHeap), gloop body n fr H = some r → gloop body' n' fr H = some r
  | 0, _, _, fr, H, r, hd => by cases hd
  | n + 1, 0, hn, fr, H, r, hd => by omega
  | n + 1, n' + 1, hn, fr, H, r, hd => by
    simp only [gloop] at hd ⊢
    split at hd
    · rename_i f1 H1 h1
      rw [h _ _ _ h1]
      exact gloop_mono h n n' (by omega) _ _ _ hd
    · rename_i hne
      rw [h _ _ _ hd]
      split
      · rename_i f1 H1 h1
        cases h1
        exact absurd hd (hne _ _)
      · rfl
theorem gcode_mono (h : CLe call call') {m m' : Nat} (hm : m ≤ m') : ∀ (c : GCode) (fr : Fr) (H : GHeap) (r : GExit × Fr × GHeap), gcode call m c fr H = some r → gcode call' m' c fr H = some r := by
  intro c
  induction c with
  | skip => intro fr H r hd; exact hd
  | exit id => intro fr H r hd; exact hd
  | ret => intro fr H r hd; exact hd
  | bad => intro fr H r hd; cases hd
  | line l =>
    intro fr H r hd
    simp only [gcode] at hd ⊢
    split at hd
    · rename_i f1 H1 h1
      rw [gsteps_mono (fun _ _ _ _ => gdo_mono h) _ _ _ _ h1]; exact hd
    · cases hd
  | any hide pre post =>
    intro fr H r hd
    simp only [gcode] at hd ⊢
    split at hd
    · rename_i f1 H1 h1
      rw [gany_mono h h1]; exact hd
    · cases hd
  | seq a b iha ihb =>
    intro fr H r hd
    simp only [gcode] at hd ⊢
    split at hd
    · rename_i f1 H1 h1
      rw [iha _ _ _ h1]; exact ihb _ _ _ hd
    · rename_i hne
      rw [iha _ _ _ hd]
      split
      · rename_i f1 H1 h1
        cases h1
        exact absurd hd (hne _ _)
      · rfl
  | cond c a b iha ihb =>
    intro fr H r hd
    simp only [gcode] at hd ⊢
    split at hd
    · exact iha _ _ _ hd
    · exact ihb _ _ _ hd
    · cases hd
  | block id a iha =>
    intro fr H r hd
    simp only [gcode] at hd ⊢
    split at hd
    · rename_i h1
      rw [iha _ _ _ h1]; exact hd
    · rename_i hne
      rw [iha _ _ _ hd]
      split
      · rename_i h1
        cases h1
        exact absurd hd (hne _ _ _)
      · rfl
  | loop a iha =>
    intro fr H r hd
    simp only [gcode] at hd ⊢
    exact gloop_mono iha _ _ hm _ _ _ hd
theorem gbody_mono (h : CLe call call') {m m' : Nat} (hm : m ≤ m') {g : GFun} {args : List Value} {H : GHeap} {r : Value × GHeap} (hd : gbody call m g args H = some r) : gbody call' m' g args H = some r := by
  unfold gbody at hd ⊢
  split at hd
  · rename_i f1 H1 h1
    rw [gcode_mono h hm _ _ _ _ h1]; exact hd
  · rename_i f1 H1 h1
    rw [gcode_mono h hm _ _ _ _ h1]; exact hd
  · cases hd
theorem gcall_mono {G : FuncId → Option GEnt} : ∀ (d d' m m' : Nat), d ≤ d' → m ≤ m' → CLe (gcall G m d) (gcall G m' d')
  | 0, _, _, _, _, _ => fun _ _ _ _ h => by cases h
  | d + 1, 0, _, _, hd, _ => by omega
  | d + 1, d' + 1, m, m', hd, hm => by
    have ih := gcall_mono (G := G) d d' m m' (by omega) hm
    intro f args H r h
    simp only [gcall] at h ⊢
    split at h
    · exact gbody_mono ih hm h
    · split at h
      · rename_i hargs
        rw [if_pos hargs]
        split at h
        · rename_i v H1 h1
          rw [gbody_mono ih hm h1]; exact h
        · cases h
      · cases h
    · exact ih _ _ _ _ h
    · cases h

/-! ### without a bound -/
variable {G : FuncId → Option GEnt}
def Runs (G : FuncId → Option GEnt) (f : FuncId) (args : List Value) (H : GHeap) (r : Value × GHeap) : Prop := ∃ n, gcall G n n f args H = some r
theorem Runs.one {f : FuncId} {args : List Value} {H : GHeap} {r r' : Value × GHeap} (h : Runs G f args H r) (h' : Runs G f args H r') : r = r' := by
  obtain ⟨n, h⟩ := h
  obtain ⟨n', h'⟩ := h'
  have h1 := gcall_mono (G := G) n (max n n') n (max n n') (by omega) (by omega) _ _ _ _ h
  have h2 := gcall_mono (G := G) n' (max n n') n' (max n n') (by omega) (by omega) _ _ _ _ h'
  rw [h1] at h2
  exact Option.some.inj h2
open Classical in
/-- a call, however many steps it takes -/
noncomputable def gev (G : FuncId → Option GEnt) : GCall := fun f args H => if h : ∃ r, Runs G f args H r then some h.choose else none
theorem gev_some {f : FuncId} {args : List Value} {H : GHeap} {r : Value × GHeap} : gev G f args H = some r ↔ Runs G f args H r := by
  unfold gev
  constructor
  · intro h
    split at h
    · rename_i hex
      cases h
      exact hex.choose_spec
    · cases h
  · intro h
    have hex : ∃ r, Runs G f args H r := ⟨r, h⟩
    rw [dif_pos hex]
    exact congrArg some (Runs.one hex.choose_spec h)
theorem gev_of_gcall {m d : Nat} {f : FuncId} {args : List Value} {H : GHeap} {r : Value × GHeap} (h : gcall G m d f args H = some r) : gev G f args H = some r :=
  gev_some.2 ⟨max m d, gcall_mono d _ m _ (by omega) (by omega) _ _ _ _ h⟩
abbrev gat (G : FuncId → Option GEnt) (n : Nat) : GCall := gcall G n n
theorem gat_le {n n' : Nat} (h : n ≤ n') : CLe (gat G n) (gat G n') := gcall_mono _ _ _ _ h h
theorem gdo_fin {fr : Fr} {H : GHeap} {op : GOp} {r : Value × GHeap} (hd : gdo (gev G) fr H op = some r) : ∃ n, gdo (gat G n) fr H op = some r := by
  unfold gdo at hd ⊢
  split at hd
  · simp only [Option.bind_eq_some_iff] at hd
    obtain ⟨⟨g, args⟩, h1, h2⟩ := hd
    obtain ⟨n, h3⟩ := gev_some.1 h2
    refine ⟨n, ?_⟩
    rw [h1]; exact h3
  · exact ⟨0, hd⟩
theorem gdoM_fin {fr : Fr} {H : GHeap} {op : GOp} {r : Value × GHeap} (hd : gdoM (gev G) fr H op = some r) : ∃ n, gdoM (gat G n) fr H op = some r := by
  unfold gdoM at hd ⊢
  split at hd
  · simp only [Option.bind_eq_some_iff, Option.map_eq_some_iff] at hd
    obtain ⟨⟨g, args⟩, h1, ⟨v, H1⟩, h2, h4⟩ := hd
    obtain ⟨n, h3⟩ := gev_some.1 h2
    refine ⟨n, ?_⟩
    simp only [Option.bind_eq_some_iff, Option.map_eq_some_iff]
    exact ⟨(g, args), h1, (v, H1), h3, h4⟩
  · exact ⟨0, hd⟩
theorem gsteps_fin {run : GCall → Fr → GHeap → GOp → Option (Value × GHeap)} (hm : ∀ c c', CLe c c' → ∀ fr H op r, run c fr H op = some r → run c' fr H op = some r) (hf : ∀ fr H op r, run (gev G) fr H op = some r → ∃ n, run (gat G n) fr H op = some r) :
    ∀ (l : List GOper) (fr : Fr) (H : GHeap) (r : Fr × GHeap), gsteps (run (gev G)) l fr H = some r → ∃ n, gsteps (run (gat G n)) l fr H = some r
  | [], fr, H, r, hd => ⟨0, hd⟩
  | o :: l, fr, H, r, hd => by
    simp only [gsteps] at hd
    split at hd
    · rename_i hw
      split at hd
      · rename_i v H1 h1
        obtain ⟨n1, k1⟩ := hf _ _ _ _ h1
        obtain ⟨n2, k2⟩ := gsteps_fin hm hf l _ _ _ hd
        refine ⟨max n1 n2, ?_⟩
        simp only [gsteps]
        rw [hw]
        simp only
        rw [hm _ _ (gat_le (Nat.le_max_left _ _)) _ _ _ _ k1]
        exact gsteps_mono (hm _ _ (gat_le (Nat.le_max_right _ _))) _ _ _ _ k2
      · cases hd
    · rename_i hw
      obtain ⟨n2, k2⟩ := gsteps_fin hm hf l _ _ _ hd
      refine ⟨n2, ?_⟩
      simp only [gsteps]
      rw [hw]; exact k2
    · cases hd
theorem gpost_fin (hid : List Nat) : ∀ (l : List (Bool × GOper)) (fr : Fr) (H : GHeap) (r : Fr × GHeap), gpost (gev G) hid l fr H = some r → ∃ n, gpost (gat G n) hid l fr H = some r
  | [], fr, H, r, hd => ⟨0, hd⟩
  | (e, o) :: l, fr, H, r, hd => by
    simp only [gpost] at hd
    split at hd
    · rename_i hw
      split at hd
      · cases hd
      · rename_i hne
        split at hd
        · rename_i v H1 h1
          obtain ⟨n1, k1⟩ := gdo_fin h1
          obtain ⟨n2, k2⟩ := gpost_fin hid l _ _ _ hd
          refine ⟨max n1 n2, ?_⟩
          simp only [gpost]
          rw [hw]
          simp only
          rw [if_neg hne, gdo_mono (gat_le (Nat.le_max_left _ _)) k1]
          exact gpost_mono (gat_le (Nat.le_max_right _ _)) _ _ _ _ _ k2
        · cases hd
    · rename_i hw
      obtain ⟨n2, k2⟩ := gpost_fin hid l _ _ _ hd
      refine ⟨n2, ?_⟩
      simp only [gpost]
      rw [hw]; exact k2
    · cases hd
theorem gany_fin {hide : List GArg} {pre : List GOper} {post : List (Bool × GOper)} {fr : Fr} {H : GHeap} {r : Fr × GHeap} (hd : gany (gev G) hide pre post fr H = some r) : ∃ n, gany (gat G n) hide pre post fr H = some r := by
  unfold gany at hd
  split at hd
  · rename_i f1 H1 h1
    obtain ⟨n1, k1⟩ := gsteps_fin (run := gdoM) (fun _ _ h _ _ _ _ => gdoM_mono h) (fun _ _ _ _ => gdoM_fin) _ _ _ _ h1
    obtain ⟨n2, k2⟩ := gpost_fin _ _ _ _ _ hd
    refine ⟨max n1 n2, ?_⟩
    unfold gany
    rw [gsteps_mono (fun _ _ _ _ => gdoM_mono (gat_le (Nat.le_max_left n1 n2))) _ _ _ _ k1]
    exact gpost_mono (gat_le (Nat.le_max_right _ _)) _ _ _ _ _ k2
  · cases hd
theorem gloop_fin {body : GCall → Fr → GHeap → GRes} (hm : ∀ c c', CLe c c' → ∀ fr H r, body c fr H = some r → body c' fr H = some r) (hf : ∀ fr H r, body (gev G) fr H = some r → ∃ n, body (gat G n) fr H = some r) :
    ∀ (k : Nat) (fr : Fr) (H : GHeap) (r : GExit × Fr × GHeap), gloop (body (gev G)) k fr H = some r → ∃ n, gloop (body (gat G n)) k fr H = some r
  | 0, fr, H, r, hd => by cases hd
  | k + 1, fr, H, r, hd => by
    simp only [gloop] at hd
    split at hd
    · rename_i f1 H1 h1
      obtain ⟨n1, k1⟩ := hf _ _ _ h1
      obtain ⟨n2, k2⟩ := gloop_fin hm hf k _ _ _ hd
      refine ⟨max n1 n2, ?_⟩
      simp only [gloop]
      rw [hm _ _ (gat_le (Nat.le_max_left _ _)) _ _ _ k1]
      exact gloop_mono (hm _ _ (gat_le (Nat.le_max_right _ _))) _ _ (Nat.le_refl _) _ _ _ k2
    · rename_i hne
      obtain ⟨n1, k1⟩ := hf _ _ _ hd
      refine ⟨n1, ?_⟩
      simp only [gloop]
      rw [k1]
      split
      · rename_i h1
        cases h1
        exact absurd hd (hne _ _)
      · rfl
theorem gcode_fin (m : Nat) : ∀ (c : GCode) (fr : Fr) (H : GHeap) (r : GExit × Fr × GHeap), gcode (gev G) m c fr H = some r → ∃ n, gcode (gat G n) m c fr H = some r := by
  intro c
  induction c with
  | skip => intro fr H r hd; exact ⟨0, hd⟩
  | exit id => intro fr H r hd; exact ⟨0, hd⟩
  | ret => intro fr H r hd; exact ⟨0, hd⟩
  | bad => intro fr H r hd; cases hd
  | line l =>
    intro fr H r hd
    simp only [gcode] at hd
    split at hd
    · rename_i f1 H1 h1
      obtain ⟨n1, k1⟩ := gsteps_fin (run := gdo) (fun _ _ h _ _ _ _ => gdo_mono h) (fun _ _ _ _ => gdo_fin) _ _ _ _ h1
      refine ⟨n1, ?_⟩
      simp only [gcode]
      rw [k1]; exact hd
    · cases hd
  | any hide pre post =>
    intro fr H r hd
    simp only [gcode] at hd
    split at hd
    · rename_i f1 H1 h1
      obtain ⟨n1, k1⟩ := gany_fin h1
      refine ⟨n1, ?_⟩
      simp only [gcode]
      rw [k1]; exact hd
    · cases hd
  | seq a b iha ihb =>
    intro fr H r hd
    simp only [gcode] at hd
    split at hd
    · rename_i f1 H1 h1
      obtain ⟨n1, k1⟩ := iha _ _ _ h1
      obtain ⟨n2, k2⟩ := ihb _ _ _ hd
      refine ⟨max n1 n2, ?_⟩
      simp only [gcode]
      rw [gcode_mono (gat_le (Nat.le_max_left _ _)) (Nat.le_refl _) _ _ _ _ k1]
      exact gcode_mono (gat_le (Nat.le_max_right _ _)) (Nat.le_refl _) _ _ _ _ k2
    · rename_i hne
      obtain ⟨n1, k1⟩ := iha _ _ _ hd
      refine ⟨n1, ?_⟩
      simp only [gcode]
      rw [k1]
      split
      · rename_i h1
        cases h1
        exact absurd hd (hne _ _)
      · rfl
  | cond c a b iha ihb =>
    intro fr H r hd
    simp only [gcode] at hd ⊢
    split at hd
    · exact iha _ _ _ hd
    · exact ihb _ _ _ hd
    · cases hd
  | block id a iha =>
    intro fr H r hd
    simp only [gcode] at hd
    split at hd
    · rename_i h1
      obtain ⟨n1, k1⟩ := iha _ _ _ h1
      refine ⟨n1, ?_⟩
      simp only [gcode]
      rw [k1]; exact hd
    · rename_i hne
      obtain ⟨n1, k1⟩ := iha _ _ _ hd
      refine ⟨n1, ?_⟩
      simp only [gcode]
      rw [k1]
      split
      · rename_i h1
        cases h1
        exact absurd hd (hne _ _ _)
      · rfl
  | loop a iha =>
    intro fr H r hd
    simp only [gcode] at hd ⊢
    exact gloop_fin (body := fun c => gcode c m a) (fun _ _ h fr H r => gcode_mono h (Nat.le_refl _) a fr H r) iha _ _ _ _ hd
theorem gbody_fin {m : Nat} {g : GFun} {args : List Value} {H : GHeap} {r : Value × GHeap} (hd : gbody (gev G) m g args H = some r) : ∃ n, gbody (gat G n) m g args H = some r := by
  unfold gbody at hd
  split at hd
  · rename_i f1 H1 h1
    obtain ⟨n, k⟩ := gcode_fin m _ _ _ _ h1
    exact ⟨n, by unfold gbody; rw [k]; exact hd⟩
  · rename_i f1 H1 h1
    obtain ⟨n, k⟩ := gcode_fin m _ _ _ _ h1
    exact ⟨n, by unfold gbody; rw [k]; exact hd⟩
  · cases hd
theorem gev_fn {f : FuncId} {g : GFun} (hG : G f = some (.fn g)) {m : Nat} {args : List Value} {H : GHeap} {r : Value × GHeap} (hd : gbody (gev G) m g args H = some r) : gev G f args H = some r := by
  obtain ⟨n, h⟩ := gbody_fin hd
  refine gev_some.2 ⟨max n m + 1, ?_⟩
  simp only [gcall, hG]
  exact gbody_mono (gcall_mono _ _ _ _ (by omega) (by omega)) (by omega) h
theorem gev_twin {f g : FuncId} (hG : G f = some (.twin g)) {args : List Value} {H : GHeap} {r : Value × GHeap} (hd : gev G g args H = some r) : gev G f args H = some r := by
  obtain ⟨n, h⟩ := gev_some.1 hd
  refine gev_some.2 ⟨n + 1, ?_⟩
  simp only [gcall, hG]
  exact gcall_mono _ _ _ _ (by omega) (by omega) _ _ _ _ h
theorem gev_pure {f : FuncId} {g : GFun} (hG : G f = some (.pure g)) {m : Nat} {args : List Value} {H H' : GHeap} {v : Value} (ha : args.all litOk = true) (hv : litVal v = true) (hd : gbody (gev G) m g args (gRoot H) = some (v, H')) : gev G f args H = some (v, H) := by
  obtain ⟨n, h⟩ := gbody_fin hd
  refine gev_some.2 ⟨max n m + 1, ?_⟩
  simp only [gcall, hG]
  rw [if_pos ha, gbody_mono (gcall_mono _ _ _ _ (by omega) (by omega)) (show m ≤ max n m + 1 by omega) h]
  simp only
  rw [if_pos hv]
end
end Go.Gh
