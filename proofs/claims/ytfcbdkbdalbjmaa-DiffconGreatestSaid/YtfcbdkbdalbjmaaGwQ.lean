/-
  What an argument's type says of its ghost value, the program out of sight.
-/
import Derived.Test.YtfcbdkbdalbjmaaGwP
namespace Go.Gh
set_option linter.unusedVariables false
set_option linter.unusedSimpArgs false
open Go.RowKit

inductive Shp where
  | bool
  | int (k : IntKind)
  | str
  | sl (s : Shp)
  | st (l : List Shp)
mutual
def Shp.size : Shp → Nat
  | .bool | .int _ | .str | .sl _ => 1
  | .st l => Shp.sizes l
def Shp.sizes : List Shp → Nat
  | [] => 0
  | s :: r => s.size + Shp.sizes r
end
mutual
def RdS (H : GHeap) : Shp → List Value → Prop
  | .bool, gs => ∃ b, gs = [.bool b]
  | .int k, gs => ∃ n, gs = [.int k n] ∧ (Lit.int k n).wf = true
  | .str, gs => ∃ s : ByteArray, gs = [.string s] ∧ s.size ≤ maxLen
  | .sl s, gs => ∃ (v : Value) (rows : List (List Value)), gs = [v] ∧ GArg1 H s.size v rows.length rows.flatten ∧ rows.length ≤ maxLen ∧ ∀ r ∈ rows, r.length = s.size ∧ RdS H s r
  | .st l, gs => RdSs H l gs
def RdSs (H : GHeap) : List Shp → List Value → Prop
  | [], gs => gs = []
  | s :: r, gs => ∃ a b, gs = a ++ b ∧ RdS H s a ∧ RdSs H r b
end
def shpsOf (rec : TypeId → Option Shp) : List Field → Option (List Shp)
  | [] => some []
  | f :: fs => match rec f.type, shpsOf rec fs with
    | some s, some r => some (s :: r)
    | _, _ => none
/-- a type's shape, if it has one -/
def shp (P : Program) : Nat → TypeId → Option Shp
  | 0, _ => none
  | d + 1, t => match P.underlying t with
    | some .bool => if P.cellsOf t = 1 then some .bool else none
    | some (.int k) => if P.cellsOf t = 1 then some (.int k) else none
    | some .string => if P.cellsOf t = 1 then some .str else none
    | some (.slice e) => match shp P d e with
      | some s => if P.cellsOf t = 1 ∧ P.cellsOf e = s.size ∧ 0 < s.size then some (.sl s) else none
      | none => none
    | some (.struct fs) => match shpsOf (shp P d) fs.toList with
      | some l => if fieldsK P.cellsOf fs.toList 0 (P.cellsOf t) = true then some (.st l) else none
      | none => none
    | _ => none
section
variable {P : Program} {H : GHeap}
theorem shp_ok : ∀ (d : Nat) (t : TypeId) (s : Shp), shp P d t = some s → okT P d t = true ∧ ∀ gs, Rdb P H d t gs → RdS H s gs := by
  intro d
  induction d with
  | zero => intro t s h; cases h
  | succ d ih =>
    intro t s h
    unfold shp at h
    split at h
    · rename_i ht
      split at h
      · rename_i hc; cases h
        refine ⟨by unfold okT; rw [ht]; simpa using hc, fun gs hg => ?_⟩
        unfold Rdb at hg; rw [ht] at hg
        simp only [RdS]; exact hg
      · cases h
    · rename_i k ht
      split at h
      · rename_i hc; cases h
        refine ⟨by unfold okT; rw [ht]; simpa using hc, fun gs hg => ?_⟩
        unfold Rdb at hg; rw [ht] at hg
        simp only [RdS]; exact hg
      · cases h
    · rename_i ht
      split at h
      · rename_i hc; cases h
        refine ⟨by unfold okT; rw [ht]; simpa using hc, fun gs hg => ?_⟩
        unfold Rdb at hg; rw [ht] at hg
        simp only [RdS]; exact hg
      · cases h
    · rename_i e ht
      split at h
      · rename_i s' hs
        split at h
        · rename_i hc; cases h
          obtain ⟨k1, k2⟩ := ih e s' hs
          obtain ⟨h1, h2, h3⟩ := hc
          refine ⟨by unfold okT; rw [ht]; simp [h1, h2, h3, k1], fun gs hg => ?_⟩
          unfold Rdb at hg; rw [ht] at hg
          simp only at hg
          rw [h2] at hg
          obtain ⟨v, rows, r1, r2, r3, r4⟩ := hg
          simp only [RdS]
          exact ⟨v, rows, r1, r2, r3, fun r hr => ⟨(r4 r hr).1, k2 _ (r4 r hr).2⟩⟩
        · cases h
      · cases h
    · rename_i fs ht
      split at h
      · rename_i l hl
        split at h
        · rename_i hc; cases h
          have key : ∀ (fs : List Field) (l : List Shp), shpsOf (shp P d) fs = some l → fs.all (fun f => okT P d f.type) = true ∧ ∀ gs, RdbF (Rdb P H d) fs gs → RdSs H l gs := by
            intro fs
            induction fs with
            | nil => intro l h; cases h; exact ⟨rfl, fun gs h => by simp only [RdSs]; exact h⟩
            | cons f fs ihf =>
              intro l h
              simp only [shpsOf] at h
              split at h
              · rename_i s r hs hr
                cases h
                obtain ⟨k1, k2⟩ := ih _ _ hs
                obtain ⟨k3, k4⟩ := ihf _ hr
                refine ⟨by simp only [List.all_cons, k1, k3, Bool.and_self], fun gs hg => ?_⟩
                obtain ⟨a, b, e, r1, r2⟩ := hg
                simp only [RdSs]
                exact ⟨a, b, e, k2 _ r1, k4 _ r2⟩
              · cases h
          obtain ⟨k1, k2⟩ := key _ _ hl
          refine ⟨by unfold okT; rw [ht]; simp only [hc, k1, Bool.and_self], fun gs hg => ?_⟩
          unfold Rdb at hg; rw [ht] at hg
          simp only [RdS]; exact k2 _ hg
        · cases h
      · cases h
    · cases h
def RdA (H : GHeap) (s : Shp) (gv : Value) : Prop :=
  match s with
  | .st l => ∃ gs : List Value, gv = .agg gs.toArray ∧ RdSs H l gs
  | s => RdS H s [gv]
def RdAs (H : GHeap) : List Shp → List Value → Prop
  | [], gvs => gvs = []
  | s :: ss, gvs => ∃ gv r, gvs = gv :: r ∧ RdA H s gv ∧ RdAs H ss r
theorem RdV_shp {d : Nat} {t : TypeId} {s : Shp} (h : shp P d t = some s) {gv : Value} (hg : RdV P H d t gv) : RdA H s gv := by
  have hk := (shp_ok (H := H) d t s h).2
  cases d with
  | zero => cases h
  | succ d =>
    unfold shp at h
    unfold RdV at hg
    split at h
    · rename_i ht
      split at h
      · cases h; rw [ht] at hg; exact hk _ hg
      · cases h
    · rename_i k ht
      split at h
      · cases h; rw [ht] at hg; exact hk _ hg
      · cases h
    · rename_i ht
      split at h
      · cases h; rw [ht] at hg; exact hk _ hg
      · cases h
    · rename_i e ht
      split at h
      · split at h
        · cases h; rw [ht] at hg; exact hk _ hg
        · cases h
      · cases h
    · rename_i fs ht
      split at h
      · split at h
        · cases h
          rw [ht] at hg
          obtain ⟨gs, e, k⟩ := hg
          have := hk _ k
          simp only [RdS] at this
          exact ⟨gs, e, this⟩
        · cases h
      · cases h
    · cases h
theorem RdVs_shp {d : Nat} : ∀ {ts : List TypeId} {ss : List Shp}, ts.map (shp P d) = ss.map some → ts.all (okT P d) = true ∧ ∀ gvs, RdVs P H d ts gvs → RdAs H ss gvs
  | [], [], _ => ⟨rfl, fun gvs h => h⟩
  | [], _ :: _, h => by simp at h
  | _ :: _, [], h => by simp at h
  | t :: ts, s :: ss, h => by
    simp only [List.map_cons, List.cons.injEq] at h
    obtain ⟨k1, k2⟩ := RdVs_shp h.2
    refine ⟨by simp only [List.all_cons, (shp_ok (H := H) d t s h.1).1, k1, Bool.and_self], fun gvs hg => ?_⟩
    obtain ⟨gv, r, e, r1, r2⟩ := hg
    exact ⟨gv, r, e, RdV_shp h.1 r1, k2 _ r2⟩
theorem RdVs_shp_ok {d : Nat} {ts : List TypeId} {ss : List Shp} (h : ts.map (shp P d) = ss.map some) : ts.all (okT P d) = true := (RdVs_shp (H := ⟨.nil, 0, 0⟩) h).1
/-! by shape -/
theorem RdA.int_ {k : IntKind} {gv : Value} (h : RdA H (.int k) gv) : ∃ n, gv = .int k n ∧ (Lit.int k n).wf = true := by
  simp only [RdA, RdS] at h
  obtain ⟨n, e, k⟩ := h
  exact ⟨n, by simpa using e, k⟩
theorem RdA.bool_ {gv : Value} (h : RdA H .bool gv) : ∃ b, gv = .bool b := by
  simp only [RdA, RdS] at h
  obtain ⟨n, e⟩ := h
  exact ⟨n, by simpa using e⟩
theorem RdA.str_ {gv : Value} (h : RdA H .str gv) : ∃ s : ByteArray, gv = .string s ∧ s.size ≤ maxLen := by
  simp only [RdA, RdS] at h
  obtain ⟨n, e, k⟩ := h
  exact ⟨n, by simpa using e, k⟩
/-- a slice whose elements are the cells of things of a Lean type -/
theorem RdA.sl_ {α : Type} {f : α → List Value} {s : Shp} {gv : Value} (h : RdA H (.sl s) gv) (hf : ∀ r, RdS H s r → ∃ x, r = f x) : ∃ l : List α, GArg1 H s.size gv l.length (l.flatMap f) ∧ l.length ≤ maxLen ∧ ∀ x ∈ l, RdS H s (f x) := by
  simp only [RdA, RdS] at h
  obtain ⟨v, rows, e, k1, k2, k3⟩ := h
  simp at e
  subst e
  have key : ∀ rows : List (List Value), (∀ r ∈ rows, RdS H s r) → ∃ l : List α, rows = l.map f ∧ ∀ x ∈ l, RdS H s (f x) := by
    intro rows
    induction rows with
    | nil => intro _; exact ⟨[], rfl, by simp⟩
    | cons r rs ih =>
      intro h
      obtain ⟨l, rfl, hl⟩ := ih fun r hr => h r (by simp [hr])
      obtain ⟨x, rfl⟩ := hf r (h r (by simp))
      exact ⟨x :: l, rfl, by intro y hy; rcases List.mem_cons.1 hy with rfl | hy; · exact h _ (by simp)
                             · exact hl y hy⟩
  obtain ⟨l, rfl, hl⟩ := key rows fun r hr => (k3 r hr).2
  rw [List.length_map] at k1 k2
  exact ⟨l, by rw [List.flatMap_def]; exact k1, k2, hl⟩
theorem RdA.ints_ {k : IntKind} {gv : Value} (h : RdA H (.sl (.int k)) gv) : ∃ l : List Int, GArg1 H 1 gv l.length (ints k l) ∧ l.length ≤ maxLen ∧ ∀ n ∈ l, (Lit.int k n).wf = true := by
  obtain ⟨l, k1, k2, k3⟩ := h.sl_ (f := fun n => [.int k n]) fun r hr => by
    simp only [RdS] at hr
    obtain ⟨n, e, _⟩ := hr; exact ⟨n, e⟩
  refine ⟨l, ?_, k2, fun n hn => ?_⟩
  · have : l.flatMap (fun n => [Value.int k n]) = ints k l := by
      unfold ints
      clear k1 k2 k3
      induction l with
      | nil => rfl
      | cons a l ih => rw [List.flatMap_cons, ih]; rfl
    rw [this] at k1; exact k1
  · have := k3 n hn
    simp only [RdS] at this
    obtain ⟨m, e, h⟩ := this
    simp at e
    subst e; exact h
theorem wf_i64 {n : Int} (h : (Lit.int .i64 n).wf = true) : -9223372036854775808 ≤ n ∧ n ≤ 9223372036854775807 := by
  simpa [Lit.wf, IntKind.min, IntKind.max, IntKind.signed, IntKind.bits] using h
theorem wf_i32 {n : Int} (h : (Lit.int .i32 n).wf = true) : -2147483648 ≤ n ∧ n ≤ 2147483647 := by
  simpa [Lit.wf, IntKind.min, IntKind.max, IntKind.signed, IntKind.bits] using h
theorem wf_u8 {n : Int} (h : (Lit.int .u8 n).wf = true) : 0 ≤ n ∧ n ≤ 255 := by
  simpa [Lit.wf, IntKind.min, IntKind.max, IntKind.signed, IntKind.bits] using h
theorem wf_u16 {n : Int} (h : (Lit.int .u16 n).wf = true) : 0 ≤ n ∧ n ≤ 65535 := by
  simpa [Lit.wf, IntKind.min, IntKind.max, IntKind.signed, IntKind.bits] using h
/-- a law's call, by shapes -/
theorem law_shp {W : World} {T : Type} {enc : TypeId × Value → T} (hb : szK P P.rt.byte = some 1) (hmix : P.follows .mixedOrders = true) {G : FuncId → Option GEnt} (hG : GOk P G) {f : FuncId} {g : GFun} (hf : G f = some (.fn g)) (D : Nat) {r : _root_.Go.Reach} {base : Nat}
    {ts : List TypeId} {vs : List Value} {ds : List (DataW T)} {p : List MemPlace} (h : DataW.TrodAll enc P W 0 (fun _ => true) true ts vs ds p) (hv : ∀ (j : Nat) t v, ts[j]? = some t → vs[j]? = some v → Value.okWide P W r base t v) {ss : List Shp} (hs : ts.map (shp P D) = ss.map some)
    {ι : Inj} {H : GHeap} (hO : Opn P W ι H) (hlaw : ∀ H' gvs, Ext H H' → H'.wf → RdAs H' ss gvs → ∃ v H2, gev G f gvs H' = some (v, H2) ∧ v = .bool true) :
    Calls P f vs.toArray W fun e w' => e = .returned (.bool true) ∧ Below W.heap.size W w' :=
  law_calls hb hmix hG hf h hv (RdVs_shp_ok hs) hO fun H' gvs he hw hr => hlaw H' gvs he hw ((RdVs_shp hs).2 _ hr)
end
end Go.Gh
