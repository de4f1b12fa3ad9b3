/-
  Arguments that came in, as objects of a ghost heap.
-/
import Derived.Test.YtfcbdkbdalbjmaaGwB
import Derived.ChangeSlices
import Derived.DataElems
namespace Go.Gh
set_option linter.unusedVariables false
set_option linter.unusedSimpArgs false
open Go.RowKit Go.WideShapes Go.ChangeShapes

def Ext (H H' : GHeap) : Prop := H.len ≤ H'.len ∧ (∀ i, i < H.len → H'.obj i = H.obj i)
theorem Ext.refl (H : GHeap) : Ext H H := ⟨Nat.le_refl _, fun _ _ => rfl⟩
theorem Ext.trans {A B C : GHeap} (h : Ext A B) (k : Ext B C) : Ext A C := ⟨Nat.le_trans h.1 k.1, fun i hi => (k.2 i (Nat.lt_of_lt_of_le hi h.1)).trans (h.2 i hi)⟩
/-- an elder heap: all objects are read alone -/
structure Opn (P : Program) (w : World) (ι : Inj) (H : GHeap) : Prop where
  wf : H.wf
  lim : H.lim = H.len
  hr : HR P w.heap.size H.lim ι H.t w
  fresh : ∀ i, H.len ≤ i → ι i = none
def GHeap.elder (H : GHeap) (gs : List Value) : GHeap := ⟨H.t.set H.len (.cells gs 0 false), H.len + 1, H.len + 1⟩
theorem obj_elder (H : GHeap) (gs : List Value) (j : Nat) : (H.elder gs).obj j = if H.len = j then some (.cells gs 0 false) else H.obj j := Tr.get_set _ _ _ _
theorem Ext.elder (H : GHeap) (gs : List Value) : Ext H (H.elder gs) := ⟨Nat.le_succ _, fun i hi => by rw [obj_elder, if_neg (by omega)]⟩
theorem addr_add (b off j : Nat) : (⟨b, off, none⟩ : Addr).add j = ⟨b, off + j, none⟩ := by unfold Addr.add; split <;> simp_all
section
variable {P : Program} {w : World} {ι ι' : Inj} {H H' : GHeap}
theorem wf_elder (hw : H.wf) (gs : List Value) : (H.elder gs).wf := by
  refine ⟨Nat.le_refl _, fun j => ?_⟩
  rw [obj_elder]
  show _ ↔ j < H.len + 1
  by_cases h : H.len = j
  · subst h; simp
  · rw [if_neg h, hw.2 j]; omega
theorem HR_elder (h : Opn P w ι H) (gs : List Value) (ι' : Inj) (hle : ι.le ι') (hne : ∀ j, j ≠ H.len → ι' j = ι j) (hnew : ∀ l, ι' H.len = some l → l.block < w.heap.size ∧ l.unit = 0 ∧ ∀ (j : Nat) v, gs[j]? = some v → flatV v = true ∧ ∃ v', w.cell? ⟨l.block, l.off + j, none⟩ = some v' ∧ VR ι' v v') : HR P w.heap.size (H.elder gs).lim ι' (H.elder gs).t w := by
  refine ⟨Nat.le_refl _, fun i l hl => ?_, fun i l o hl ho => ?_, fun i l o j l' o' hl ho hl' ho' hij hlim how hlv => ?_, fun g hg => ?_⟩
  · by_cases hi : i = H.len
    · subst hi; exact (hnew l hl).1
    · exact h.hr.blk i l (by rw [← hne i hi]; exact hl)
  · have ho : (H.elder gs).obj i = some o := ho
    rw [obj_elder] at ho
    by_cases hi : H.len = i
    · subst hi
      rw [if_pos rfl] at ho
      cases ho
      obtain ⟨k1, k2, k3⟩ := hnew l hl
      exact ⟨by rw [k2]; rfl, k3, fun e => by cases e⟩
    · rw [if_neg hi] at ho
      have hl0 : ι i = some l := by rw [← hne i (Ne.symm hi)]; exact hl
      have hlt : i < H.len := (h.wf.2 i).1 (by rw [ho]; rfl)
      have := h.hr.obj i l o hl0 ho
      cases o with
      | dead u => exact this
      | iter s p => exact ⟨this.1, this.2.1, this.2.2.1, fun hh => absurd (show H.len + 1 ≤ i from hh) (by omega)⟩
      | cells cs u own =>
        refine ⟨this.1, fun j v hv => ?_, fun _ hh => absurd (show H.len + 1 ≤ i from hh) (by omega)⟩
        obtain ⟨k1, v', k2, k3⟩ := this.2.1 j v hv
        exact ⟨k1, v', k2, k3.mono hle⟩
  · have ho : (H.elder gs).obj i = some o := ho
    have := ((wf_elder h.wf gs).2 i).1 (by rw [ho]; rfl)
    exact absurd (show H.len + 1 ≤ i from hlim) (by have : i < H.len + 1 := this; omega)
  · obtain ⟨l, k1, k2⟩ := h.hr.glob g hg
    exact ⟨l, hle _ _ k1, k2⟩
/-- a row of cells of the world -/
theorem Opn.row (h : Opn P w ι H) {gs : List Value} {b o : Nat} (hb : b < w.heap.size) (hc : ∀ (j : Nat) v, gs[j]? = some v → flatV v = true ∧ ∃ v', w.cell? ⟨b, o + j, none⟩ = some v' ∧ VR ι v v') : Opn P w (ι.upd H.len ⟨b, o, 0, 0⟩) (H.elder gs) := by
  have hle := Inj.le_upd (ι := ι) (n := H.len) ⟨b, o, 0, 0⟩ (h.fresh _ (Nat.le_refl _))
  refine ⟨wf_elder h.wf gs, rfl, HR_elder h gs _ hle (fun j hj => Inj.upd_ne _ _ hj) fun l hl => ?_, fun i hi => ?_⟩
  · rw [Inj.upd_same] at hl
    cases hl
    exact ⟨hb, rfl, fun j v hv => let ⟨k1, v', k2, k3⟩ := hc j v hv; ⟨k1, v', k2, k3.mono hle⟩⟩
  · rw [Inj.upd_ne _ _ (by have : H.len + 1 ≤ i := hi; omega)]; exact h.fresh i (by have : H.len + 1 ≤ i := hi; omega)
/-- nothing -/
theorem Opn.none_ (h : Opn P w ι H) : Opn P w ι (H.elder []) := by
  refine ⟨wf_elder h.wf [], rfl, HR_elder h [] _ (Inj.le.refl _) (fun j hj => rfl) fun l hl => ?_, fun i hi => ?_⟩
  · rw [h.fresh _ (Nat.le_refl _)] at hl; cases hl
  · exact h.fresh i (by have : H.len + 1 ≤ i := hi; omega)

/-! ### what is read -/
def RdbF (rec : TypeId → List Value → Prop) : List Field → List Value → Prop
  | [], gs => gs = []
  | f :: fs, gs => ∃ a b, gs = a ++ b ∧ rec f.type a ∧ RdbF rec fs b
/-- values that read as a type's -/
def Rdb (P : Program) (H : GHeap) : Nat → TypeId → List Value → Prop
  | 0, _, _ => False
  | d + 1, t, gs => match P.underlying t with
    | some .bool => ∃ b, gs = [.bool b]
    | some (.int k) => ∃ n, gs = [.int k n] ∧ (Lit.int k n).wf = true
    | some .string => ∃ s : ByteArray, gs = [.string s] ∧ s.size ≤ maxLen
    | some (.slice e) => ∃ (v : Value) (rows : List (List Value)), gs = [v] ∧ GArg1 H (P.cellsOf e) v rows.length rows.flatten ∧ rows.length ≤ maxLen ∧ ∀ r ∈ rows, r.length = P.cellsOf e ∧ Rdb P H d e r
    | some (.struct fs) => RdbF (Rdb P H d) fs.toList gs
    | _ => False
theorem RdbF.mono {r r' : TypeId → List Value → Prop} (h : ∀ t gs, r t gs → r' t gs) : ∀ (fs : List Field) gs, RdbF r fs gs → RdbF r' fs gs
  | [], gs, k => k
  | f :: fs, gs, ⟨a, b, k1, k2, k3⟩ => ⟨a, b, k1, h _ _ k2, RdbF.mono h fs b k3⟩
theorem GArg1.ext {size n : Nat} {v : Value} {xs : List Value} (h : GArg1 H size v n xs) (hw : H.wf) (he : Ext H H') : GArg1 H' size v n xs := by
  refine ⟨?_, ?_⟩
  · obtain ⟨h1, a, gc, h2, h3⟩ := h.rd
    refine ⟨h1, a, gc, h2, fun hn => ?_⟩
    obtain ⟨i, o, cs, k1, k2, k3, k4⟩ := h3 hn
    exact ⟨i, o, cs, k1, Nat.lt_of_lt_of_le k2 he.1, by unfold GHeap.cs at k3 ⊢; rw [he.2 i k2]; exact k3, k4⟩
  · obtain ⟨a, gc, e, k0, k1, k2⟩ := h.sl
    refine ⟨a, gc, e, k0, k1, fun i o ha => ?_⟩
    obtain ⟨u, k3, k4⟩ := k2 i o ha
    refine ⟨u, ?_, k4⟩
    unfold GHeap.unit at k3 ⊢
    have : i < H.len := by
      rcases Option.map_eq_some_iff.1 k3 with ⟨ob, e1, _⟩
      exact (hw.2 i).1 (by rw [e1]; rfl)
    rw [he.2 i this]; exact k3
theorem Rdb.ext (hw : H.wf) (he : Ext H H') : ∀ (d : Nat) (t : TypeId) (gs : List Value), Rdb P H d t gs → Rdb P H' d t gs := by
  intro d
  induction d with
  | zero => intro t gs h; exact h
  | succ d ih =>
    intro t gs h
    unfold Rdb at h ⊢
    split at h
    · exact h
    · exact h
    · exact h
    · obtain ⟨v, rows, k1, k2, k3, k4⟩ := h
      exact ⟨v, rows, k1, k2.ext hw he, k3, fun r hr => ⟨(k4 r hr).1, ih _ _ (k4 r hr).2⟩⟩
    · exact RdbF.mono ih _ _ h
    · exact h

def fieldsK (sz : TypeId → Nat) : List Field → Nat → Nat → Bool
  | [], o, n => o == n
  | f :: fs, o, n => f.offset == o && fieldsK sz fs (o + sz f.type) n
/-- a type without pointers, maps, interfaces, functions -/
def okT (P : Program) : Nat → TypeId → Bool
  | 0, _ => false
  | d + 1, t => match P.underlying t with
    | some .bool | some (.int _) | some .string => P.cellsOf t == 1
    | some (.slice e) => P.cellsOf t == 1 && decide (0 < P.cellsOf e) && okT P d e
    | some (.struct fs) => fieldsK P.cellsOf fs.toList 0 (P.cellsOf t) && fs.toList.all (fun f => okT P d f.type)
    | _ => false
variable {T : Type} {enc : TypeId × Value → T}
/-- what the opening of a value of a type gives -/
def Opens (P : Program) (w : World) (d : Nat) (t : TypeId) (cs : List Value) : Prop :=
  ∀ ι H, Opn P w ι H → ∃ ι' H' gs, Opn P w ι' H' ∧ ι.le ι' ∧ Ext H H' ∧ VRs ι' gs cs ∧ (∀ v ∈ gs, flatV v = true) ∧ Rdb P H' d t gs ∧ gs.length = P.cellsOf t
theorem opens_fields {d n : Nat} {cs : List Value} (ih : ∀ t cs x, DataW.trod enc P w 0 (fun _ => true) true n t cs = some x → okT P d t = true → Opens P w d t cs) :
    ∀ (fs : List Field) (o N : Nat), fieldsK P.cellsOf fs o N = true → cs.length = N → o ≤ N → (∀ f ∈ fs, okT P d f.type = true ∧ ∃ x, DataW.trod enc P w 0 (fun _ => true) true n f.type ((cs.drop f.offset).take (P.cellsOf f.type)) = some x) →
    ∀ ι H, Opn P w ι H → ∃ ι' H' gs, Opn P w ι' H' ∧ ι.le ι' ∧ Ext H H' ∧ VRs ι' gs (cs.drop o) ∧ (∀ v ∈ gs, flatV v = true) ∧ RdbF (Rdb P H' d) fs gs ∧ gs.length = N - o
  | [], o, N, hk, hcs, ho, _, ι, H, hO => by
    simp only [fieldsK, beq_iff_eq] at hk
    subst hk
    exact ⟨ι, H, [], hO, Inj.le.refl _, Ext.refl _, by rw [List.drop_eq_nil_of_le (by omega)]; exact VRs.nil, by simp, rfl, by simp⟩
  | f :: fs, o, N, hk, hcs, ho, hf, ι, H, hO => by
    simp only [fieldsK, Bool.and_eq_true, beq_iff_eq] at hk
    obtain ⟨hk1, hk2⟩ := hk
    obtain ⟨h1, x, h2⟩ := hf f (by simp)
    rw [hk1] at h2
    obtain ⟨ι1, H1, ga, a1, a2, a3, a4, a5, a6, a7⟩ := ih _ _ _ h2 h1 ι H hO
    have hle : o + P.cellsOf f.type ≤ N := by
      have := a4.1
      rw [a7, List.length_take, List.length_drop] at this
      omega
    obtain ⟨ι2, H2, gb, b1, b2, b3, b4, b5, b6, b7⟩ := opens_fields ih fs _ N hk2 hcs hle (fun f hf' => hf f (by simp [hf'])) ι1 H1 a1
    refine ⟨ι2, H2, ga ++ gb, b1, a2.trans b2, a3.trans b3, ?_, ?_, ⟨ga, gb, rfl, a6.ext a1.wf b3, b6⟩, by rw [List.length_append, a7, b7]; omega⟩
    · have e : cs.drop o = (cs.drop o).take (P.cellsOf f.type) ++ cs.drop (o + P.cellsOf f.type) := by
        rw [← List.drop_drop, List.take_append_drop]
      rw [e]
      exact (a4.mono b2).append b4
    · intro v hv
      rcases List.mem_append.1 hv with h | h
      · exact a5 v h
      · exact b5 v h
theorem opens_rows {d n sz : Nat} {e : TypeId} {a : Addr} (hsz : P.cellsOf e = sz) (ih : ∀ t cs x, DataW.trod enc P w 0 (fun _ => true) true n t cs = some x → okT P d t = true → Opens P w d t cs) (he : okT P d e = true) :
    ∀ (m : Nat), (∀ i, i < m → ∃ x, (w.cells? 0 (a.add (i * sz)) sz).bind (DataW.trod enc P w 0 (fun _ => true) true n e) = some x) →
    ∀ ι H, Opn P w ι H → ∃ (ι' : Inj) (H' : GHeap) (rows : List (List Value)), Opn P w ι' H' ∧ ι.le ι' ∧ Ext H H' ∧ rows.length = m ∧ (∀ r ∈ rows, r.length = sz ∧ Rdb P H' d e r) ∧
      ∀ (j : Nat) v, rows.flatten[j]? = some v → flatV v = true ∧ ∃ v', w.cell? (a.add j) = some v' ∧ VR ι' v v'
  | 0, _, ι, H, hO => ⟨ι, H, [], hO, Inj.le.refl _, Ext.refl _, rfl, by simp, fun j v h => by simp at h⟩
  | m + 1, hx, ι, H, hO => by
    obtain ⟨ι1, H1, rows, a1, a2, a3, a4, a5, a6⟩ := opens_rows hsz ih he m (fun i hi => hx i (by omega)) ι H hO
    obtain ⟨x, h2⟩ := hx m (by omega)
    rw [Option.bind_eq_some_iff] at h2
    obtain ⟨cs, hcs, h2⟩ := h2
    obtain ⟨_, hl, hcell⟩ := World.cells?_some hcs
    obtain ⟨ι2, H2, gb, b1, b2, b3, b4, b5, b6, b7⟩ := ih _ _ _ h2 he ι1 H1 a1
    have hfl : rows.flatten.length = m * sz := by
      have : ∀ (rows : List (List Value)), (∀ r ∈ rows, r.length = sz) → rows.flatten.length = rows.length * sz := by
        intro rows
        induction rows with
        | nil => intro _; simp
        | cons r rs ih => intro h; rw [List.flatten_cons, List.length_append, ih (fun r hr => h r (by simp [hr])), h r (by simp), List.length_cons, Nat.succ_mul]; omega
      rw [this rows fun r hr => (a5 r hr).1, a4]
    refine ⟨ι2, H2, rows ++ [gb], b1, a2.trans b2, a3.trans b3, by simp [a4], fun r hr => ?_, fun j v hv => ?_⟩
    · rcases List.mem_append.1 hr with h | h
      · exact ⟨(a5 r h).1, (a5 r h).2.ext a1.wf b3⟩
      · obtain rfl := List.mem_singleton.1 h
        exact ⟨b7.trans hsz, b6⟩
    · rw [List.flatten_append, List.flatten_cons, List.flatten_nil, List.append_nil] at hv
      by_cases hj : j < m * sz
      · rw [List.getElem?_append_left (by omega)] at hv
        obtain ⟨k1, v', k2, k3⟩ := a6 j v hv
        exact ⟨k1, v', k2, k3.mono b2⟩
      · rw [List.getElem?_append_right (by omega), hfl] at hv
        obtain ⟨v', k1, k2⟩ := b4.2 _ _ hv
        refine ⟨b5 v (List.mem_of_getElem? hv), v', ?_, k2⟩
        have hlt := (List.getElem?_eq_some_iff.1 hv).1
        have := hcell (j - m * sz) (by omega)
        rw [k1] at this
        rw [← this, Addr.add_add, show m * sz + (j - m * sz) = j from by omega]
theorem opens_trod : ∀ (d : Nat) (fuel : Nat) (t : TypeId) (cs : List Value) (x : DataW T × List MemPlace), DataW.trod enc P w 0 (fun _ => true) true fuel t cs = some x → okT P d t = true → Opens P w d t cs := by
  intro d
  induction d with
  | zero => intro fuel t cs x _ h; simp [okT] at h
  | succ d ih =>
    intro fuel t cs x hx hok ι H hO
    unfold okT at hok
    split at hok
    · rename_i ht
      obtain ⟨b, rfl, _⟩ := DataW.trod_bool ht hx
      refine ⟨ι, H, [.bool b], hO, Inj.le.refl _, Ext.refl _, VRs.nil.cons (.lit rfl), by simp [flatV], ?_, by simpa using (of_decide_eq_true hok : P.cellsOf t = 1).symm⟩
      unfold Rdb; rw [ht]; exact ⟨b, rfl⟩
    · rename_i k ht
      obtain ⟨n, rfl, _, hwf⟩ := DataW.trod_int ht hx
      refine ⟨ι, H, [.int k n], hO, Inj.le.refl _, Ext.refl _, VRs.nil.cons (.lit rfl), by simp [flatV], ?_, by simpa using (of_decide_eq_true hok : P.cellsOf t = 1).symm⟩
      unfold Rdb; rw [ht]; exact ⟨n, rfl, hwf⟩
    · rename_i ht
      obtain ⟨s, rfl, _, hs⟩ := DataW.trod_string ht hx
      refine ⟨ι, H, [.string s], hO, Inj.le.refl _, Ext.refl _, VRs.nil.cons (.lit rfl), by simp [flatV], ?_, by simpa using (of_decide_eq_true hok : P.cellsOf t = 1).symm⟩
      unfold Rdb; rw [ht]; exact ⟨s, rfl, hs⟩
    · rename_i e ht
      simp only [Bool.and_eq_true, beq_iff_eq, decide_eq_true_eq] at hok
      obtain ⟨⟨hc1, hsz⟩, he⟩ := hok
      rcases DataW.trod_slice ht hx with ⟨rfl, _⟩ | ⟨a, len, cap, elems, rest, n, _, rfl, _, _, hl, hm, hlen, hel, hsp, _⟩
      · refine ⟨ι, H, [.slice none 0 0], hO, Inj.le.refl _, Ext.refl _, VRs.nil.cons (.lit rfl), by simp [flatV], ?_, by simpa using hc1.symm⟩
        unfold Rdb; rw [ht]
        exact ⟨_, [], rfl, ⟨⟨by simp, none, 0, rfl, fun h => absurd h (by simp)⟩, none, 0, rfl, .inl rfl, fun _ => .inl rfl, fun i o e => by cases e⟩, by simp, by simp⟩
      · obtain ⟨hrl, hr⟩ := hsp rfl
        obtain ⟨ι1, H1, rows, a1, a2, a3, a4, a5, a6⟩ := opens_rows (a := a) rfl (fun t cs x => ih n t cs x) he len (fun i hi => ⟨elems[i]'(by omega), by rw [hel i hi, List.getElem?_eq_getElem]⟩) ι H hO
        have hfl : rows.flatten.length = len * P.cellsOf e := by
          have : ∀ (rows : List (List Value)), (∀ r ∈ rows, r.length = P.cellsOf e) → rows.flatten.length = rows.length * P.cellsOf e := by
            intro rows
            induction rows with
            | nil => intro _; simp
            | cons r rs ih => intro h; rw [List.flatten_cons, List.length_append, ih (fun r hr => h r (by simp [hr])), h r (by simp), List.length_cons, Nat.succ_mul]; omega
          rw [this rows fun r hr => (a5 r hr).1, a4]
        by_cases hcap : cap = 0
        · subst hcap
          obtain rfl : len = 0 := by omega
          have hrows : rows = [] := List.eq_nil_of_length_eq_zero a4
          subst hrows
          refine ⟨ι1, H1.elder [], [.slice (some ⟨H1.len, 0, none⟩) 0 0], a1.none_, a2, a3.trans (Ext.elder _ _), VRs.nil.cons (.slV (by omega)), by simp [flatV], ?_, by simpa using hc1.symm⟩
          unfold Rdb; rw [ht]
          refine ⟨_, [], rfl, ⟨⟨by simp, some ⟨H1.len, 0, none⟩, 0, rfl, fun h => absurd h (by simp)⟩, some ⟨H1.len, 0, none⟩, 0, rfl, .inl rfl, fun _ => .inr ⟨_, _, rfl⟩, fun i o e => ?_⟩, by simp, by simp⟩
          cases e
          exact ⟨0, by unfold GHeap.unit; rw [obj_elder, if_pos rfl]; rfl, .inl rfl⟩
        · -- the first cell of the row
          have h0 : ∃ u, w.cell? a = some u := by
            have hcells : ∃ cs, w.cells? 0 (a.add (0 * P.cellsOf e)) (P.cellsOf e) = some cs := by
              by_cases hlen0 : len = 0
              · have := hr 0 (by omega)
                rw [hlen0] at this
                simp only [Nat.zero_add] at this
                rw [List.getElem?_eq_getElem (by omega), Option.bind_eq_some_iff] at this
                exact ⟨_, this.choose_spec.1⟩
              · have := hel 0 (by omega)
                rw [List.getElem?_eq_getElem (by omega), Option.bind_eq_some_iff] at this
                exact ⟨_, this.choose_spec.1⟩
            obtain ⟨cs, hcs⟩ := hcells
            obtain ⟨_, hl2, hcell⟩ := World.cells?_some hcs
            have := hcell 0 hsz
            rw [List.getElem?_eq_getElem (by omega)] at this
            refine ⟨_, Eq.trans (congrArg _ ?_) this⟩
            unfold Addr.add
            cases a with
            | mk b o s => cases s <;> simp
          obtain ⟨u0, hu0⟩ := h0
          obtain ⟨b, off, spot⟩ := a
          obtain rfl : spot = none := World.cell?_spot hu0
          have hb := World.block_lt_of_cell? w (⟨b, off, none⟩ : Addr) hu0
          have h2 := a1.row (b := b) (o := off) hb (gs := rows.flatten) fun j v hv => by
            have := a6 j v hv
            rwa [addr_add] at this
          have hle := Inj.le_upd (ι := ι1) (n := H1.len) ⟨b, off, 0, 0⟩ (a1.fresh _ (Nat.le_refl _))
          refine ⟨_, H1.elder rows.flatten, [.slice (some ⟨H1.len, 0, none⟩) len 0], h2, a2.trans hle, a3.trans (Ext.elder _ _), VRs.nil.cons ?_, by simp [flatV], ?_, by simpa using hc1.symm⟩
          · have := VR.sl (ι := ι1.upd H1.len ⟨b, off, 0, 0⟩) (i := H1.len) (o := 0) (n := len) (gc := 0) (c := cap) (Inj.upd_same _ _ _) hl (.inl rfl) (.inl rfl)
            simpa using this
          · unfold Rdb; rw [ht]
            refine ⟨_, rows, rfl, ⟨⟨by rw [hfl, a4], some ⟨H1.len, 0, none⟩, 0, by rw [a4], fun _ => ⟨H1.len, 0, rows.flatten, rfl, Nat.lt_succ_self _, ?_, fun j u hu => by rw [Nat.zero_add]; exact hu⟩⟩, some ⟨H1.len, 0, none⟩, 0, by rw [a4], .inl rfl, fun _ => .inr ⟨_, _, rfl⟩, fun i o e => ?_⟩, by rw [a4]; omega, fun r hr => ⟨(a5 r hr).1, (a5 r hr).2.ext a1.wf (Ext.elder _ _)⟩⟩
            · unfold GHeap.cs; rw [obj_elder, if_pos rfl]
            · cases e
              exact ⟨0, by unfold GHeap.unit; rw [obj_elder, if_pos rfl]; rfl, .inl rfl⟩
    · rename_i fs ht
      simp only [Bool.and_eq_true, List.all_eq_true] at hok
      obtain ⟨xs, n, _, _, hl, hlen, hf⟩ := DataW.trod_struct ht hx
      obtain ⟨ι1, H1, gs, a1, a2, a3, a4, a5, a6, a7⟩ := opens_fields (enc := enc) (cs := cs) (d := d) (n := n) (fun t cs x => ih n t cs x) fs.toList 0 (P.cellsOf t) hok.1 hl (by omega) (fun f hf' => by
        refine ⟨hok.2 f hf', ?_⟩
        obtain ⟨i, hi, rfl⟩ := List.getElem_of_mem hf'
        have hi' : i < fs.size := by simpa using hi
        have := hf i fs[i] (by simp [hi'])
        rw [List.getElem?_eq_getElem (by omega)] at this
        exact ⟨_, by simpa using this⟩) ι H hO
      refine ⟨ι1, H1, gs, a1, a2, a3, by simpa using a4, a5, ?_, by simpa using a7⟩
      unfold Rdb; rw [ht]; exact a6
    · cases hok
end
end Go.Gh
