/-
  Arguments that came in, as ghost objects; a law's call.
-/
import Derived.Test.YtbhgpiakeimmlaaDoorK4
import Derived.SizedLaws
import Derived.ChangeSlices
import Derived.DataElems
import Derived.OpenShut
import Derived.Carry
import Derived.ChangeOld
import Derived.WideShapes
namespace Go.Gh
set_option linter.unusedVariables false
set_option linter.unusedSimpArgs false
open Go.RowKit Go.WideShapes Go.ChangeShapes

def Ext (H H' : GHeap) : Prop := H.len ≤ H'.len ∧ (∀ i, i < H.len → H'.obj i = H.obj i)
theorem Ext.refl (H : GHeap) : Ext H H := ⟨Nat.le_refl _, fun _ _ => rfl⟩
theorem Ext.trans {A B C : GHeap} (h : Ext A B) (k : Ext B C) : Ext A C := ⟨Nat.le_trans h.1 k.1, fun i hi => (k.2 i (Nat.lt_of_lt_of_le hi h.1)).trans (h.2 i hi)⟩
/-- an elder heap: all objects are read alone -/
structure Opn (P : Program) (w : World) (ι : Inj) (H : GHeap) : Prop where
  wf : H.wf
  lim : H.lim = H.len
  hr : HR P w.heap.size H.lim ι H.t w
  fresh : ∀ i, H.len ≤ i → ι i = none
def GHeap.elder (H : GHeap) (gs : List Value) : GHeap := ⟨H.t.set H.len (.cells gs 0 false), H.len + 1, H.len + 1⟩
theorem obj_elder (H : GHeap) (gs : List Value) (j : Nat) : (H.elder gs).obj j = if H.len = j then some (.cells gs 0 false) else H.obj j := Tr.get_set _ _ _ _
theorem Ext.elder (H : GHeap) (gs : List Value) : Ext H (H.elder gs) := ⟨Nat.le_succ _, fun i hi => by rw [obj_elder, if_neg (by omega)]⟩
theorem addr_add (b off j : Nat) : (⟨b, off, none⟩ : Addr).add j = ⟨b, off + j, none⟩ := by unfold Addr.add; split <;> simp_all
section
variable {P : Program} {w : World} {ι ι' : Inj} {H H' : GHeap}
theorem wf_elder (hw : H.wf) (gs : List Value) : (H.elder gs).wf := by
  refine ⟨Nat.le_refl _, fun j => ?_⟩
  rw [obj_elder]
  show _ ↔ j < H.len + 1
  by_cases h : H.len = j
  · subst h; simp
  · rw [if_neg h, hw.2 j]; omega
theorem HR_elder (h : Opn P w ι H) (gs : List Value) (ι' : Inj) (hle : ι.le ι') (hne : ∀ j, j ≠ H.len → ι' j = ι j) (hnew : ∀ l, ι' H.len = some l → l.block < w.heap.size ∧ l.unit = 0 ∧ ∀ (j : Nat) v, gs[j]? = some v → flatV v = true ∧ ∃ v', w.cell? ⟨l.block, l.off + j, none⟩ = some v' ∧ VR ι' v v') : HR P w.heap.size (H.elder gs).lim ι' (H.elder gs).t w := by
  refine ⟨Nat.le_refl _, fun i l hl => ?_, fun i l o hl ho => ?_, fun i l o j l' o' hl ho hl' ho' hij hlim how hlv => ?_, fun g hg => ?_, h.hr.door⟩
  · by_cases hi : i = H.len
    · subst hi; exact (hnew l hl).1
    · exact h.hr.blk i l (by rw [← hne i hi]; exact hl)
  · have ho : (H.elder gs).obj i = some o := ho
    rw [obj_elder] at ho
    by_cases hi : H.len = i
    · subst hi
      rw [if_pos rfl] at ho
      cases ho
      obtain ⟨k1, k2, k3⟩ := hnew l hl
      exact ⟨by rw [k2]; rfl, k3, fun e => by cases e⟩
    · rw [if_neg hi] at ho
      have hl0 : ι i = some l := by rw [← hne i (Ne.symm hi)]; exact hl
      have hlt : i < H.len := (h.wf.2 i).1 (by rw [ho]; rfl)
      have := h.hr.obj i l o hl0 ho
      cases o with
      | dead u => exact this
      | iter s p => exact ⟨this.1, this.2.1, this.2.2.1, fun hh => absurd (show H.len + 1 ≤ i from hh) (by omega)⟩
      | cells cs u own =>
        refine ⟨this.1, fun j v hv => ?_, fun _ hh => absurd (show H.len + 1 ≤ i from hh) (by omega)⟩
        obtain ⟨k1, v', k2, k3⟩ := this.2.1 j v hv
        exact ⟨k1, v', k2, k3.mono hle⟩
  · have ho : (H.elder gs).obj i = some o := ho
    have := ((wf_elder h.wf gs).2 i).1 (by rw [ho]; rfl)
    exact absurd (show H.len + 1 ≤ i from hlim) (by have : i < H.len + 1 := this; omega)
  · obtain ⟨l, k1, k2⟩ := h.hr.glob g hg
    exact ⟨l, hle _ _ k1, k2⟩
/-- a row of cells of the world -/
theorem Opn.row (h : Opn P w ι H) {gs : List Value} {b o : Nat} (hb : b < w.heap.size) (hc : ∀ (j : Nat) v, gs[j]? = some v → flatV v = true ∧ ∃ v', w.cell? ⟨b, o + j, none⟩ = some v' ∧ VR ι v v') : Opn P w (ι.upd H.len ⟨b, o, 0, 0⟩) (H.elder gs) := by
  have hle := Inj.le_upd (ι := ι) (n := H.len) ⟨b, o, 0, 0⟩ (h.fresh _ (Nat.le_refl _))
  refine ⟨wf_elder h.wf gs, rfl, HR_elder h gs _ hle (fun j hj => Inj.upd_ne _ _ hj) fun l hl => ?_, fun i hi => ?_⟩
  · rw [Inj.upd_same] at hl
    cases hl
    exact ⟨hb, rfl, fun j v hv => let ⟨k1, v', k2, k3⟩ := hc j v hv; ⟨k1, v', k2, k3.mono hle⟩⟩
  · rw [Inj.upd_ne _ _ (by have : H.len + 1 ≤ i := hi; omega)]; exact h.fresh i (by have : H.len + 1 ≤ i := hi; omega)
/-- nothing -/
theorem Opn.none_ (h : Opn P w ι H) : Opn P w ι (H.elder []) := by
  refine ⟨wf_elder h.wf [], rfl, HR_elder h [] _ (Inj.le.refl _) (fun j hj => rfl) fun l hl => ?_, fun i hi => ?_⟩
  · rw [h.fresh _ (Nat.le_refl _)] at hl; cases hl
  · exact h.fresh i (by have : H.len + 1 ≤ i := hi; omega)

/-! ### what is read -/
mutual
/-- how long the strings and the slices are that a datum holds -/
def dims {T : Type} : DataW T → List Nat
  | .lit (.string b) => [b.length]
  | .lit _ => []
  | .nil => [0]
  | .ptr d => dims d
  | .slice e s => e.length :: (dimsAll e ++ dimsAll s)
  | .agg parts => dimsAll parts
  | .iface _ d => dims d
  | .map _ => []
  | .held _ => []
def dimsAll {T : Type} : List (DataW T) → List Nat
  | [] => []
  | d :: r => dims d ++ dimsAll r
end
theorem dims_mem {T : Type} {d : DataW T} {m : Nat} : ∀ {l : List (DataW T)}, d ∈ l → m ∈ dims d → m ∈ dimsAll l
  | x :: l, h, hm => by
    simp only [dimsAll, List.mem_append]
    rcases List.mem_cons.1 h with rfl | h
    · exact .inl hm
    · exact .inr (dims_mem h hm)
/-- a datum's lengths are within reach, and as Q says -/
def Sz {T : Type} (Q : Nat → Prop) (P : Program) (t : TypeId) (d : DataW T) : Prop := (∀ m ∈ d.weights P t, m ≤ reachBytes) ∧ ∀ m ∈ dims d, Q m
def RdbF (rec : TypeId → List Value → Prop) : List Field → List Value → Prop
  | [], gs => gs = []
  | f :: fs, gs => ∃ a b, gs = a ++ b ∧ rec f.type a ∧ RdbF rec fs b
/-- an array's elements, as fields -/
def arrF (P : Program) (e : TypeId) (n : Nat) : List Field := (List.range n).map fun i => ⟨ "", e, i * P.cellsOf e, false, "", "", 0⟩
/-- values that read as a type's -/
def Rdb (Q : Nat → Prop) (P : Program) (H : GHeap) : Nat → TypeId → List Value → Prop
  | 0, _, _ => False
  | d + 1, t, gs => match P.underlying t with
    | some .bool => ∃ b, gs = [.bool b]
    | some (.int k) => ∃ n, gs = [.int k n] ∧ (Lit.int k n).wf = true
    | some .string => ∃ s : ByteArray, gs = [.string s] ∧ s.size ≤ reachBytes ∧ Q s.size
    | some (.slice e) => ∃ (v : Value) (rows : List (List Value)), gs = [v] ∧ GArg1 H (P.cellsOf e) v rows.length rows.flatten ∧ (rows.length ≤ maxLen ∧ rows.length * P.bytesOf e ≤ reachBytes ∧ Q rows.length) ∧ ∀ r ∈ rows, r.length = P.cellsOf e ∧ Rdb Q P H d e r
    | some (.struct fs) => RdbF (Rdb Q P H d) fs.toList gs
    | some (.array n e) => RdbF (Rdb Q P H d) (arrF P e n) gs
    | _ => False
theorem RdbF.mono {r r' : TypeId → List Value → Prop} (h : ∀ t gs, r t gs → r' t gs) : ∀ (fs : List Field) gs, RdbF r fs gs → RdbF r' fs gs
  | [], gs, k => k
  | f :: fs, gs, ⟨a, b, k1, k2, k3⟩ => ⟨a, b, k1, h _ _ k2, RdbF.mono h fs b k3⟩
theorem GArg1.ext {size n : Nat} {v : Value} {xs : List Value} (h : GArg1 H size v n xs) (hw : H.wf) (he : Ext H H') : GArg1 H' size v n xs := by
  refine ⟨?_, ?_⟩
  · obtain ⟨h1, a, gc, h2, h3⟩ := h.rd
    refine ⟨h1, a, gc, h2, fun hn => ?_⟩
    obtain ⟨i, o, cs, k1, k2, k3, k4⟩ := h3 hn
    exact ⟨i, o, cs, k1, Nat.lt_of_lt_of_le k2 he.1, by unfold GHeap.cs at k3 ⊢; rw [he.2 i k2]; exact k3, k4⟩
  · obtain ⟨a, gc, e, k0, k1, k2⟩ := h.sl
    refine ⟨a, gc, e, k0, k1, fun i o ha => ?_⟩
    obtain ⟨u, k3, k4⟩ := k2 i o ha
    refine ⟨u, ?_, k4⟩
    unfold GHeap.unit at k3 ⊢
    have : i < H.len := by
      rcases Option.map_eq_some_iff.1 k3 with ⟨ob, e1, _⟩
      exact (hw.2 i).1 (by rw [e1]; rfl)
    rw [he.2 i this]; exact k3
theorem Rdb.ext {Q : Nat → Prop} (hw : H.wf) (he : Ext H H') : ∀ (d : Nat) (t : TypeId) (gs : List Value), Rdb Q P H d t gs → Rdb Q P H' d t gs := by
  intro d
  induction d with
  | zero => intro t gs h; exact h
  | succ d ih =>
    intro t gs h
    unfold Rdb at h ⊢
    split at h
    · exact h
    · exact h
    · exact h
    · obtain ⟨v, rows, k1, k2, k3, k4⟩ := h
      exact ⟨v, rows, k1, k2.ext hw he, k3, fun r hr => ⟨(k4 r hr).1, ih _ _ (k4 r hr).2⟩⟩
    · exact RdbF.mono ih _ _ h
    · exact RdbF.mono ih _ _ h
    · exact h

def fieldsK (sz : TypeId → Nat) : List Field → Nat → Nat → Bool
  | [], o, n => o == n
  | f :: fs, o, n => f.offset == o && fieldsK sz fs (o + sz f.type) n
/-- a type without pointers, maps, interfaces, functions -/
def okT (P : Program) : Nat → TypeId → Bool
  | 0, _ => false
  | d + 1, t => match P.underlying t with
    | some .bool | some (.int _) | some .string => P.cellsOf t == 1
    | some (.slice e) => P.cellsOf t == 1 && decide (0 < P.cellsOf e) && okT P d e
    | some (.struct fs) => fieldsK P.cellsOf fs.toList 0 (P.cellsOf t) && fs.toList.all (fun f => okT P d f.type)
    | some (.array n e) => fieldsK P.cellsOf (arrF P e n) 0 (P.cellsOf t) && (arrF P e n).all (fun f => okT P d f.type)
    | _ => false
variable {T : Type} {enc : TypeId × Value → T} {Q : Nat → Prop}
/-- what the opening of a value of a type gives -/
def Opens (Q : Nat → Prop) (P : Program) (w : World) (d : Nat) (t : TypeId) (cs : List Value) : Prop :=
  ∀ ι H, Opn P w ι H → ∃ ι' H' gs, Opn P w ι' H' ∧ ι.le ι' ∧ Ext H H' ∧ VRs ι' gs cs ∧ (∀ v ∈ gs, flatV v = true) ∧ Rdb Q P H' d t gs ∧ gs.length = P.cellsOf t
theorem opens_fields {d n : Nat} {cs : List Value} (ih : ∀ t cs x, DataW.trod enc P w 0 (fun _ => true) true n t cs = some x → Sz Q P t x.1 → okT P d t = true → Opens Q P w d t cs) :
    ∀ (fs : List Field) (o N : Nat), fieldsK P.cellsOf fs o N = true → cs.length = N → o ≤ N → (∀ f ∈ fs, okT P d f.type = true ∧ ∃ x, DataW.trod enc P w 0 (fun _ => true) true n f.type ((cs.drop f.offset).take (P.cellsOf f.type)) = some x ∧ Sz Q P f.type x.1) →
    ∀ ι H, Opn P w ι H → ∃ ι' H' gs, Opn P w ι' H' ∧ ι.le ι' ∧ Ext H H' ∧ VRs ι' gs (cs.drop o) ∧ (∀ v ∈ gs, flatV v = true) ∧ RdbF (Rdb Q P H' d) fs gs ∧ gs.length = N - o
  | [], o, N, hk, hcs, ho, _, ι, H, hO => by
    simp only [fieldsK, beq_iff_eq] at hk
    subst hk
    exact ⟨ι, H, [], hO, Inj.le.refl _, Ext.refl _, by rw [List.drop_eq_nil_of_le (by omega)]; exact VRs.nil, by simp, rfl, by simp⟩
  | f :: fs, o, N, hk, hcs, ho, hf, ι, H, hO => by
    simp only [fieldsK, Bool.and_eq_true, beq_iff_eq] at hk
    obtain ⟨hk1, hk2⟩ := hk
    obtain ⟨h1, x, h2, h2z⟩ := hf f (by simp)
    rw [hk1] at h2
    obtain ⟨ι1, H1, ga, a1, a2, a3, a4, a5, a6, a7⟩ := ih _ _ _ h2 h2z h1 ι H hO
    have hle : o + P.cellsOf f.type ≤ N := by
      have := a4.1
      rw [a7, List.length_take, List.length_drop] at this
      omega
    obtain ⟨ι2, H2, gb, b1, b2, b3, b4, b5, b6, b7⟩ := opens_fields ih fs _ N hk2 hcs hle (fun f hf' => hf f (by simp [hf'])) ι1 H1 a1
    refine ⟨ι2, H2, ga ++ gb, b1, a2.trans b2, a3.trans b3, ?_, ?_, ⟨ga, gb, rfl, a6.ext a1.wf b3, b6⟩, by rw [List.length_append, a7, b7]; omega⟩
    · have e : cs.drop o = (cs.drop o).take (P.cellsOf f.type) ++ cs.drop (o + P.cellsOf f.type) := by
        rw [← List.drop_drop, List.take_append_drop]
      rw [e]
      exact (a4.mono b2).append b4
    · intro v hv
      rcases List.mem_append.1 hv with h | h
      · exact a5 v h
      · exact b5 v h
theorem opens_rows {d n sz : Nat} {e : TypeId} {a : Addr} (hsz : P.cellsOf e = sz) (ih : ∀ t cs x, DataW.trod enc P w 0 (fun _ => true) true n t cs = some x → Sz Q P t x.1 → okT P d t = true → Opens Q P w d t cs) (he : okT P d e = true) :
    ∀ (m : Nat), (∀ i, i < m → ∃ x, (w.cells? 0 (a.add (i * sz)) sz).bind (DataW.trod enc P w 0 (fun _ => true) true n e) = some x ∧ Sz Q P e x.1) →
    ∀ ι H, Opn P w ι H → ∃ (ι' : Inj) (H' : GHeap) (rows : List (List Value)), Opn P w ι' H' ∧ ι.le ι' ∧ Ext H H' ∧ rows.length = m ∧ (∀ r ∈ rows, r.length = sz ∧ Rdb Q P H' d e r) ∧
      ∀ (j : Nat) v, rows.flatten[j]? = some v → flatV v = true ∧ ∃ v', w.cell? (a.add j) = some v' ∧ VR ι' v v'
  | 0, _, ι, H, hO => ⟨ι, H, [], hO, Inj.le.refl _, Ext.refl _, rfl, by simp, fun j v h => by simp at h⟩
  | m + 1, hx, ι, H, hO => by
    obtain ⟨ι1, H1, rows, a1, a2, a3, a4, a5, a6⟩ := opens_rows hsz ih he m (fun i hi => hx i (by omega)) ι H hO
    obtain ⟨x, h2, h2z⟩ := hx m (by omega)
    rw [Option.bind_eq_some_iff] at h2
    obtain ⟨cs, hcs, h2⟩ := h2
    obtain ⟨_, hl, hcell⟩ := World.cells?_some hcs
    obtain ⟨ι2, H2, gb, b1, b2, b3, b4, b5, b6, b7⟩ := ih _ _ _ h2 h2z he ι1 H1 a1
    have hfl : rows.flatten.length = m * sz := by
      have : ∀ (rows : List (List Value)), (∀ r ∈ rows, r.length = sz) → rows.flatten.length = rows.length * sz := by
        intro rows
        induction rows with
        | nil => intro _; simp
        | cons r rs ih => intro h; rw [List.flatten_cons, List.length_append, ih (fun r hr => h r (by simp [hr])), h r (by simp), List.length_cons, Nat.succ_mul]; omega
      rw [this rows fun r hr => (a5 r hr).1, a4]
    refine ⟨ι2, H2, rows ++ [gb], b1, a2.trans b2, a3.trans b3, by simp [a4], fun r hr => ?_, fun j v hv => ?_⟩
    · rcases List.mem_append.1 hr with h | h
      · exact ⟨(a5 r h).1, (a5 r h).2.ext a1.wf b3⟩
      · obtain rfl := List.mem_singleton.1 h
        exact ⟨b7.trans hsz, b6⟩
    · rw [List.flatten_append, List.flatten_cons, List.flatten_nil, List.append_nil] at hv
      by_cases hj : j < m * sz
      · rw [List.getElem?_append_left (by omega)] at hv
        obtain ⟨k1, v', k2, k3⟩ := a6 j v hv
        exact ⟨k1, v', k2, k3.mono b2⟩
      · rw [List.getElem?_append_right (by omega), hfl] at hv
        obtain ⟨v', k1, k2⟩ := b4.2 _ _ hv
        refine ⟨b5 v (List.mem_of_getElem? hv), v', ?_, k2⟩
        have hlt := (List.getElem?_eq_some_iff.1 hv).1
        have := hcell (j - m * sz) (by omega)
        rw [k1] at this
        rw [← this, Addr.add_add, show m * sz + (j - m * sz) = j from by omega]
theorem weightsAll_mem {P : Program} {e : TypeId} {d : DataW T} {m : Nat} : ∀ {l : List (DataW T)}, d ∈ l → m ∈ d.weights P e → m ∈ DataW.weightsAll P e l
  | x :: l, h, hm => by
    simp only [DataW.weightsAll, List.mem_append]
    rcases List.mem_cons.1 h with rfl | h
    · exact .inl hm
    · exact .inr (weightsAll_mem h hm)
theorem opens_trod : ∀ (d : Nat) (fuel : Nat) (t : TypeId) (cs : List Value) (x : DataW T × List MemPlace), DataW.trod enc P w 0 (fun _ => true) true fuel t cs = some x → Sz Q P t x.1 → okT P d t = true → Opens Q P w d t cs := by
  intro d
  induction d with
  | zero => intro fuel t cs x _ _ h; simp [okT] at h
  | succ d ih =>
    intro fuel t cs x hx hz hok ι H hO
    unfold okT at hok
    split at hok
    · rename_i ht
      obtain ⟨b, rfl, _⟩ := DataW.trod_bool ht hx
      refine ⟨ι, H, [.bool b], hO, Inj.le.refl _, Ext.refl _, VRs.nil.cons (.lit rfl), by simp [flatV], ?_, by simpa using (of_decide_eq_true hok : P.cellsOf t = 1).symm⟩
      unfold Rdb; rw [ht]; exact ⟨b, rfl⟩
    · rename_i k ht
      obtain ⟨n, rfl, _, hwf⟩ := DataW.trod_int ht hx
      refine ⟨ι, H, [.int k n], hO, Inj.le.refl _, Ext.refl _, VRs.nil.cons (.lit rfl), by simp [flatV], ?_, by simpa using (of_decide_eq_true hok : P.cellsOf t = 1).symm⟩
      unfold Rdb; rw [ht]; exact ⟨n, rfl, hwf⟩
    · rename_i ht
      obtain ⟨s, rfl, hxe, hs⟩ := DataW.trod_string ht hx
      have hsz : s.size ≤ reachBytes ∧ Q s.size := by
        rw [hxe] at hz
        exact ⟨hz.1 s.size (by simp only [DataW.weights]; exact List.mem_singleton.2 rfl), hz.2 s.size (by simp only [dims]; exact List.mem_singleton.2 rfl)⟩
      refine ⟨ι, H, [.string s], hO, Inj.le.refl _, Ext.refl _, VRs.nil.cons (.lit rfl), by simp [flatV], ?_, by simpa using (of_decide_eq_true hok : P.cellsOf t = 1).symm⟩
      unfold Rdb; rw [ht]; exact ⟨s, rfl, hsz⟩
    · rename_i e ht
      simp only [Bool.and_eq_true, beq_iff_eq, decide_eq_true_eq] at hok
      obtain ⟨⟨hc1, hsz⟩, he⟩ := hok
      rcases DataW.trod_slice ht hx with ⟨rfl, hxn⟩ | ⟨a, len, cap, elems, rest, n, _, rfl, hxe, _, hl, hm, hlen, hel, hsp, _⟩
      · refine ⟨ι, H, [.slice none 0 0], hO, Inj.le.refl _, Ext.refl _, VRs.nil.cons (.lit rfl), by simp [flatV], ?_, by simpa using hc1.symm⟩
        unfold Rdb; rw [ht]
        exact ⟨_, [], rfl, ⟨⟨by simp, none, 0, rfl, fun h => absurd h (by simp)⟩, none, 0, rfl, .inl rfl, fun _ => .inl rfl, fun i o e => by cases e⟩, ⟨by simp, by simp, by rw [hxn] at hz; exact hz.2 0 (List.mem_singleton.2 rfl)⟩, by simp⟩
      · obtain ⟨hrl, hr⟩ := hsp rfl
        rw [hxe] at hz
        obtain ⟨hz, hzq⟩ := hz
        simp only [DataW.weights, ht, List.mem_cons, List.mem_append] at hz
        simp only [dims, List.mem_cons, List.mem_append] at hzq
        have hql : Q len := by
          have := hzq _ (.inl rfl)
          rwa [List.length_map, hlen] at this
        have hzb : len * P.bytesOf e ≤ reachBytes := by
          have := hz _ (.inl rfl)
          simp only [List.length_map] at this
          exact Nat.le_trans (Nat.mul_le_mul_right _ (by omega)) this
        have hze : ∀ i (hi : i < elems.length), Sz Q P e (elems[i]).1 := fun i hi =>
          have hin : elems[i].1 ∈ elems.map (·.1) := by simp only [List.mem_map]; exact ⟨elems[i], List.getElem_mem hi, rfl⟩
          ⟨fun m hm => hz m (.inr (.inl (weightsAll_mem hin hm))), fun m hm => hzq m (.inr (.inl (dims_mem hin hm)))⟩
        obtain ⟨ι1, H1, rows, a1, a2, a3, a4, a5, a6⟩ := opens_rows (a := a) rfl (fun t cs x => ih n t cs x) he len (fun i hi => ⟨elems[i]'(by omega), by rw [hel i hi, List.getElem?_eq_getElem], hze i (by omega)⟩) ι H hO
        have hfl : rows.flatten.length = len * P.cellsOf e := by
          have : ∀ (rows : List (List Value)), (∀ r ∈ rows, r.length = P.cellsOf e) → rows.flatten.length = rows.length * P.cellsOf e := by
            intro rows
            induction rows with
            | nil => intro _; simp
            | cons r rs ih => intro h; rw [List.flatten_cons, List.length_append, ih (fun r hr => h r (by simp [hr])), h r (by simp), List.length_cons, Nat.succ_mul]; omega
          rw [this rows fun r hr => (a5 r hr).1, a4]
        by_cases hcap : cap = 0
        · subst hcap
          obtain rfl : len = 0 := by omega
          have hrows : rows = [] := List.eq_nil_of_length_eq_zero a4
          subst hrows
          refine ⟨ι1, H1.elder [], [.slice (some ⟨H1.len, 0, none⟩) 0 0], a1.none_, a2, a3.trans (Ext.elder _ _), VRs.nil.cons (.slV (by omega)), by simp [flatV], ?_, by simpa using hc1.symm⟩
          unfold Rdb; rw [ht]
          refine ⟨_, [], rfl, ⟨⟨by simp, some ⟨H1.len, 0, none⟩, 0, rfl, fun h => absurd h (by simp)⟩, some ⟨H1.len, 0, none⟩, 0, rfl, .inl rfl, fun _ => .inr ⟨_, _, rfl⟩, fun i o e => ?_⟩, ⟨by simp, by simp, hql⟩, by simp⟩
          cases e
          exact ⟨0, by unfold GHeap.unit; rw [obj_elder, if_pos rfl]; rfl, .inl rfl⟩
        · -- the first cell of the row
          have h0 : ∃ u, w.cell? a = some u := by
            have hcells : ∃ cs, w.cells? 0 (a.add (0 * P.cellsOf e)) (P.cellsOf e) = some cs := by
              by_cases hlen0 : len = 0
              · have := hr 0 (by omega)
                rw [hlen0] at this
                simp only [Nat.zero_add] at this
                rw [List.getElem?_eq_getElem (by omega), Option.bind_eq_some_iff] at this
                exact ⟨_, this.choose_spec.1⟩
              · have := hel 0 (by omega)
                rw [List.getElem?_eq_getElem (by omega), Option.bind_eq_some_iff] at this
                exact ⟨_, this.choose_spec.1⟩
            obtain ⟨cs, hcs⟩ := hcells
            obtain ⟨_, hl2, hcell⟩ := World.cells?_some hcs
            have := hcell 0 hsz
            rw [List.getElem?_eq_getElem (by omega)] at this
            refine ⟨_, Eq.trans (congrArg _ ?_) this⟩
            unfold Addr.add
            cases a with
            | mk b o s => cases s <;> simp
          obtain ⟨u0, hu0⟩ := h0
          obtain ⟨b, off, spot⟩ := a
          obtain rfl : spot = none := World.cell?_spot hu0
          have hb := World.block_lt_of_cell? w (⟨b, off, none⟩ : Addr) hu0
          have h2 := a1.row (b := b) (o := off) hb (gs := rows.flatten) fun j v hv => by
            have := a6 j v hv
            rwa [addr_add] at this
          have hle := Inj.le_upd (ι := ι1) (n := H1.len) ⟨b, off, 0, 0⟩ (a1.fresh _ (Nat.le_refl _))
          refine ⟨_, H1.elder rows.flatten, [.slice (some ⟨H1.len, 0, none⟩) len 0], h2, a2.trans hle, a3.trans (Ext.elder _ _), VRs.nil.cons ?_, by simp [flatV], ?_, by simpa using hc1.symm⟩
          · have := VR.sl (ι := ι1.upd H1.len ⟨b, off, 0, 0⟩) (i := H1.len) (o := 0) (n := len) (gc := 0) (c := cap) (Inj.upd_same _ _ _) hl (.inl rfl) (.inl rfl)
            simpa using this
          · unfold Rdb; rw [ht]
            refine ⟨_, rows, rfl, ⟨⟨by rw [hfl, a4], some ⟨H1.len, 0, none⟩, 0, by rw [a4], fun _ => ⟨H1.len, 0, rows.flatten, rfl, Nat.lt_succ_self _, ?_, fun j u hu => by rw [Nat.zero_add]; exact hu⟩⟩, some ⟨H1.len, 0, none⟩, 0, by rw [a4], .inl rfl, fun _ => .inr ⟨_, _, rfl⟩, fun i o e => ?_⟩, ⟨by rw [a4]; omega, by rw [a4]; exact hzb, by rw [a4]; exact hql⟩, fun r hr => ⟨(a5 r hr).1, (a5 r hr).2.ext a1.wf (Ext.elder _ _)⟩⟩
            · unfold GHeap.cs; rw [obj_elder, if_pos rfl]
            · cases e
              exact ⟨0, by unfold GHeap.unit; rw [obj_elder, if_pos rfl]; rfl, .inl rfl⟩
    · rename_i fs ht
      simp only [Bool.and_eq_true, List.all_eq_true] at hok
      obtain ⟨xs, n, _, hxe, hl, hlen, hf⟩ := DataW.trod_struct ht hx
      rw [hxe] at hz
      obtain ⟨hz, hzq⟩ := hz
      simp only [DataW.weights, ht] at hz
      simp only [dims] at hzq
      obtain ⟨ι1, H1, gs, a1, a2, a3, a4, a5, a6, a7⟩ := opens_fields (enc := enc) (cs := cs) (d := d) (n := n) (fun t cs x => ih n t cs x) fs.toList 0 (P.cellsOf t) hok.1 hl (by omega) (fun f hf' => by
        refine ⟨hok.2 f hf', ?_⟩
        obtain ⟨i, hi, rfl⟩ := List.getElem_of_mem hf'
        have hi' : i < fs.size := by simpa using hi
        have := hf i fs[i] (by simp [hi'])
        rw [List.getElem?_eq_getElem (by omega)] at this
        refine ⟨xs[i]'(by omega), by simpa using this, fun m hm => hz m (DataW.weights_mem_each (j := i) (t := (fs.toList[i]).type) (d := (xs[i]'(by omega)).1) (by rw [List.getElem?_map, List.getElem?_eq_getElem (by simpa using hi')]; rfl) (by rw [List.getElem?_map, List.getElem?_eq_getElem (by omega)]; rfl) m hm), fun m hm => hzq m (dims_mem (List.mem_map.2 ⟨xs[i]'(by omega), List.getElem_mem _, rfl⟩) hm)⟩) ι H hO
      refine ⟨ι1, H1, gs, a1, a2, a3, by simpa using a4, a5, ?_, by simpa using a7⟩
      unfold Rdb; rw [ht]; exact a6
    · rename_i nn e ht
      simp only [Bool.and_eq_true, List.all_eq_true] at hok
      obtain ⟨xs, n, _, hxe, hl, hlen, hf⟩ := DataW.trod_array ht hx
      rw [hxe] at hz
      obtain ⟨hz, hzq⟩ := hz
      simp only [DataW.weights, ht] at hz
      simp only [dims] at hzq
      obtain ⟨ι1, H1, gs, a1, a2, a3, a4, a5, a6, a7⟩ := opens_fields (enc := enc) (cs := cs) (d := d) (n := n) (fun t cs x => ih n t cs x) (arrF P e nn) 0 (P.cellsOf t) hok.1 hl (by omega) (fun f hf' => by
        refine ⟨hok.2 f hf', ?_⟩
        simp only [arrF, List.mem_map, List.mem_range] at hf'
        obtain ⟨i, hi, rfl⟩ := hf'
        have := hf i hi
        rw [List.getElem?_eq_getElem (by omega)] at this
        have hin : (xs[i]'(by omega)).1 ∈ xs.map (·.1) := List.mem_map.2 ⟨xs[i]'(by omega), List.getElem_mem _, rfl⟩
        exact ⟨xs[i]'(by omega), by simpa using this, fun m hm => hz m (weightsAll_mem hin hm), fun m hm => hzq m (dims_mem hin hm)⟩) ι H hO
      refine ⟨ι1, H1, gs, a1, a2, a3, by simpa using a4, a5, ?_, by simpa using a7⟩
      unfold Rdb; rw [ht]; exact a6
    · cases hok
end
end Go.Gh
namespace Go.Gh
set_option linter.unusedVariables false
set_option linter.unusedSimpArgs false
open Go.RowKit Go.WideShapes Go.ChangeShapes

/-- one argument -/
def RdV (Q : Nat → Prop) (P : Program) (H : GHeap) (D : Nat) (t : TypeId) (gv : Value) : Prop :=
  match P.underlying t with
  | some (.struct _) | some (.array _ _) => ∃ gs : List Value, gv = .agg gs.toArray ∧ Rdb Q P H D t gs
  | _ => Rdb Q P H D t [gv]
def RdVs (Q : Nat → Prop) (P : Program) (H : GHeap) (D : Nat) : List TypeId → List Value → Prop
  | [], gvs => gvs = []
  | t :: ts, gvs => ∃ gv r, gvs = gv :: r ∧ RdV Q P H D t gv ∧ RdVs Q P H D ts r
section
variable {P : Program} {W : World} {T : Type} {enc : TypeId × Value → T} {Q : Nat → Prop}
theorem RdV.ext {H H' : GHeap} (hw : H.wf) (he : Ext H H') {D : Nat} {t : TypeId} {gv : Value} (h : RdV Q P H D t gv) : RdV Q P H' D t gv := by
  unfold RdV at h ⊢
  split at h
  · obtain ⟨gs, k1, k2⟩ := h; exact ⟨gs, k1, k2.ext hw he⟩
  · obtain ⟨gs, k1, k2⟩ := h; exact ⟨gs, k1, k2.ext hw he⟩
  · exact Rdb.ext hw he _ _ _ h
theorem okWide_arr' {r : _root_.Go.Reach} {base : Nat} {t : TypeId} {v : Value} {n : Nat} {e : TypeId} (ht : P.underlying t = some (.array n e)) (h : Value.okWide P W r base t v) : ∃ cs, v = .agg cs ∧ cs.size = P.cellsOf t := by
  simp only [Value.okWide, ht] at h
  obtain ⟨cs, h1, h2, _⟩ := h
  exact ⟨cs, h1, h2⟩
theorem open_val {r : _root_.Go.Reach} {base : Nat} {D : Nat} {t : TypeId} {v : Value} {d : DataW T} {p : List MemPlace} (h : DataW.Trod enc P W 0 (fun _ => true) true t v d p) (hv : Value.okWide P W r base t v) (hz : Sz Q P t d) (hok : okT P D t = true) {ι : Inj} {H : GHeap} (hO : Opn P W ι H) :
    ∃ ι' H' gv, Opn P W ι' H' ∧ ι.le ι' ∧ Ext H H' ∧ VR ι' gv v ∧ RdV Q P H' D t gv := by
  obtain ⟨fuel, hf⟩ := h
  obtain ⟨ι1, H1, gs, a1, a2, a3, a4, a5, a6, a7⟩ := opens_trod D fuel t _ _ hf hz hok ι H hO
  refine ⟨ι1, H1, ?_⟩
  cases ht : P.underlying t with
  | none => cases D <;> simp [okT, ht] at hok
  | some u =>
    have one : v.cells = #[v] → ∃ gv, Opn P W ι1 H1 ∧ ι.le ι1 ∧ Ext H H1 ∧ VR ι1 gv v ∧ Rdb Q P H1 D t [gv] := by
      intro hc
      rw [hc] at a4
      have hl : gs.length = 1 := a4.1
      obtain ⟨gv, rfl⟩ := List.length_eq_one_iff.1 hl
      obtain ⟨v', r, e, k1, k2⟩ := a4.cons_inv
      simp at e
      obtain ⟨rfl, rfl⟩ := e
      exact ⟨gv, a1, a2, a3, k1, a6⟩
    cases u with
    | struct fs =>
      obtain ⟨cs, rfl, _⟩ := okWide_struct ht hv
      refine ⟨.agg gs.toArray, a1, a2, a3, ?_, ?_⟩
      · have h4 : VRs ι1 gs cs.toList := a4
        exact VR.agg (by simpa using h4.1) fun j h1 h2 => by
          have := h4.arr j h1 (by simpa using h2)
          simpa using this
      · unfold RdV; rw [ht]; exact ⟨gs, rfl, a6⟩
    | array nn e =>
      obtain ⟨cs, rfl, _⟩ := okWide_arr' ht hv
      refine ⟨.agg gs.toArray, a1, a2, a3, ?_, ?_⟩
      · have h4 : VRs ι1 gs cs.toList := a4
        exact VR.agg (by simpa using h4.1) fun j h1 h2 => by
          have := h4.arr j h1 (by simpa using h2)
          simpa using this
      · unfold RdV; rw [ht]; exact ⟨gs, rfl, a6⟩
    | int k =>
      obtain ⟨n, rfl⟩ := okWide_int ht hv
      obtain ⟨gv, k1, k2, k3, k4, k5⟩ := one rfl
      exact ⟨gv, k1, k2, k3, k4, by unfold RdV; rw [ht]; exact k5⟩
    | string =>
      obtain ⟨s, rfl⟩ := okWide_string ht hv
      obtain ⟨gv, k1, k2, k3, k4, k5⟩ := one rfl
      exact ⟨gv, k1, k2, k3, k4, by unfold RdV; rw [ht]; exact k5⟩
    | slice e =>
      obtain ⟨a, l, c, rfl⟩ := okWide_slice ht hv
      obtain ⟨gv, k1, k2, k3, k4, k5⟩ := one rfl
      exact ⟨gv, k1, k2, k3, k4, by unfold RdV; rw [ht]; exact k5⟩
    | bool =>
      obtain ⟨b, rfl⟩ := okWide_bool ht hv
      obtain ⟨gv, k1, k2, k3, k4, k5⟩ := one rfl
      exact ⟨gv, k1, k2, k3, k4, by unfold RdV; rw [ht]; exact k5⟩
    | _ => cases D <;> simp [okT, ht] at hok
theorem open_args {r : _root_.Go.Reach} {base : Nat} {D : Nat} : ∀ (ts : List TypeId) (vs : List Value) (ds : List (DataW T)) (p : List MemPlace), DataW.TrodAll enc P W 0 (fun _ => true) true ts vs ds p →
    (∀ (j : Nat) t v, ts[j]? = some t → vs[j]? = some v → Value.okWide P W r base t v) → (∀ (j : Nat) t d, ts[j]? = some t → ds[j]? = some d → Sz Q P t d) → ts.all (okT P D) = true → ∀ ι H, Opn P W ι H → ∃ ι' H' gvs, Opn P W ι' H' ∧ ι.le ι' ∧ Ext H H' ∧ VRs ι' gvs vs ∧ RdVs Q P H' D ts gvs
  | [], vs, ds, p, h, _, _, _, ι, H, hO => by
    obtain ⟨rfl, rfl, rfl⟩ : vs = [] ∧ ds = [] ∧ p = [] := by
      cases vs <;> cases ds <;> simp_all [DataW.TrodAll]
    exact ⟨ι, H, [], hO, Inj.le.refl _, Ext.refl _, VRs.nil, rfl⟩
  | t :: ts, vs, ds, p, h, hv, hz, hok, ι, H, hO => by
    obtain ⟨v, vs, d, ds, p, q, rfl, rfl, rfl, h1, h2⟩ := trodAll_cons h
    simp only [List.all_cons, Bool.and_eq_true] at hok
    obtain ⟨ι1, H1, gv, a1, a2, a3, a4, a5⟩ := open_val h1 (hv 0 t v rfl rfl) (hz 0 t d rfl rfl) hok.1 hO
    obtain ⟨ι2, H2, gvs, b1, b2, b3, b4, b5⟩ := open_args ts vs ds q h2 (fun j t' v' k1 k2 => hv (j + 1) t' v' k1 k2) (fun j t' d' k1 k2 => hz (j + 1) t' d' k1 k2) hok.2 ι1 H1 a1
    exact ⟨ι2, H2, gv :: gvs, b1, a2.trans b2, a3.trans b3, b4.cons (a4.mono b2), gv, gvs, rfl, a5.ext a1.wf b3, b5⟩
theorem shut_args (hl : laidOutB P = true) {W' : World} (hb : Below W.heap.size W W') : ∀ (ts : List TypeId) (vs : List Value) (ds : List (DataW T)) (p : List MemPlace), DataW.TrodAll enc P W 0 (fun _ => true) true ts vs ds p →
    ts.all (fun t => P.readableRec t && decide (t < P.types.size)) = true → DataW.TrodAll enc P W' 0 (fun b => decide (b < W.heap.size)) true ts vs ds p
  | [], vs, ds, p, h, _ => by
    obtain ⟨rfl, rfl, rfl⟩ : vs = [] ∧ ds = [] ∧ p = [] := by
      cases vs <;> cases ds <;> simp_all [DataW.TrodAll]
    rfl
  | t :: ts, vs, ds, p, h, ht => by
    obtain ⟨v, vs, d, ds, p, q, rfl, rfl, rfl, h1, h2⟩ := trodAll_cons h
    simp only [List.all_cons, Bool.and_eq_true, decide_eq_true_eq] at ht
    refine trodAll_cons_mk (Below.trod hl ht.1.1 ht.1.2 h1 hb fun x hx => ?_) (shut_args hl hb ts vs ds q h2 ht.2)
    obtain ⟨n, hn⟩ := h1
    exact DataW.trod_lt n t _ _ hn x hx
theorem opn_nil (hg : ∀ g, gOn P g = false) (W : World) (hd : gN P ≤ W.heap.size ∧ gT P W) : Opn P W (fun _ => none) ⟨.nil, 0, 0⟩ :=
  ⟨⟨Nat.le_refl _, fun i => by simp [GHeap.obj, Tr.get_nil]⟩, rfl, ⟨Nat.le_refl _, fun i l e => (by cases e), fun i l o e => (by cases e), fun i l o j l' o' e => (by cases e), fun g h => (by rw [hg] at h; cases h), hd⟩, fun _ _ => rfl⟩
/-- a string that came in is a datum of its own -/
theorem str_mem {s : ByteArray} {r : _root_.Go.Reach} {base : Nat} {D : Nat} : ∀ {ts : List TypeId} {vs : List Value} {ds : List (DataW T)} {p : List MemPlace}, DataW.TrodAll enc P W 0 (fun _ => true) true ts vs ds p →
    (∀ (j : Nat) t v, ts[j]? = some t → vs[j]? = some v → Value.okWide P W r base t v) → ts.all (okT P D) = true → Value.string s ∈ vs → (DataW.lit (.string s.data.toList) : DataW T) ∈ ds
  | [], vs, ds, p, h, _, _, hm => by
    obtain ⟨rfl, rfl, rfl⟩ : vs = [] ∧ ds = [] ∧ p = [] := by
      cases vs <;> cases ds <;> simp_all [DataW.TrodAll]
    cases hm
  | t :: ts, vs, ds, p, h, hv, hok, hm => by
    obtain ⟨v, vs, d, ds, p, q, rfl, rfl, rfl, h1, h2⟩ := trodAll_cons h
    simp only [List.all_cons, Bool.and_eq_true] at hok
    rcases List.mem_cons.1 hm with rfl | hm
    · have hw := hv 0 t _ rfl rfl
      obtain ⟨fuel, hf⟩ := h1
      have hc : (Value.string s).cells.toList = [.string s] := rfl
      rw [hc] at hf
      have hok1 := hok.1
      cases D with
      | zero => simp [okT] at hok1
      | succ D =>
        unfold okT at hok1
        split at hok1
        · rename_i ht
          obtain ⟨b, e, _⟩ := DataW.trod_bool ht hf
          simp at e
        · rename_i k ht
          obtain ⟨n, e, _⟩ := DataW.trod_int ht hf
          simp at e
        · rename_i ht
          obtain ⟨s', e, hx, _⟩ := DataW.trod_string ht hf
          simp only [List.cons.injEq, Value.string.injEq, and_true] at e
          subst e
          have : d = .lit (.string s.data.toList) := congrArg Prod.fst hx
          rw [this]
          exact List.mem_cons_self ..
        · rename_i e ht
          obtain ⟨a, l, c, e2⟩ := okWide_slice ht hw
          cases e2
        · rename_i fs ht
          obtain ⟨cs, e2, _⟩ := okWide_struct ht hw
          cases e2
        · rename_i nn e ht
          obtain ⟨cs, e2, _⟩ := okWide_arr' ht hw
          cases e2
        · cases hok1
    · exact List.mem_cons_of_mem _ (str_mem h2 (fun j t' v' k1 k2 => hv (j + 1) t' v' k1 k2) hok.2 hm)
theorem VRs.str {ι : Inj} {gvs vs : List Value} (h : VRs ι gvs vs) {s : ByteArray} (hm : Value.string s ∈ gvs) : Value.string s ∈ vs := by
  obtain ⟨j, hj, e⟩ := List.getElem_of_mem hm
  obtain ⟨v', k1, k2⟩ := h.2 j _ (List.getElem?_eq_getElem hj)
  rw [e] at k2
  cases k2
  exact List.mem_of_getElem? k1
/-- a law's call -/
theorem law_calls (hb : szK P P.rt.byte = some 1) (hmix : P.follows .mixedOrders = true) {G : FuncId → Option GEnt} (hG : GOk P G) {f : FuncId} {g : GFun} (hf : G f = some (.fn g)) {D : Nat} {r : _root_.Go.Reach} {base : Nat}
    {ts : List TypeId} {vs : List Value} {ds : List (DataW T)} {p : List MemPlace} (h : DataW.TrodAll enc P W 0 (fun _ => true) true ts vs ds p) (hv : ∀ (j : Nat) t v, ts[j]? = some t → vs[j]? = some v → Value.okWide P W r base t v) (hz : ∀ (j : Nat) t d, ts[j]? = some t → ds[j]? = some d → Sz Q P t d) (hok : ts.all (okT P D) = true)
    {ι : Inj} {H : GHeap} (hO : Opn P W ι H) (hlaw : ∀ H' gvs, Ext H H' → H'.wf → RdVs Q P H' D ts gvs → (∃ ι', VRs ι' gvs vs) → ∃ v H2, gev G f gvs H' = some (v, H2) ∧ v = .bool true) :
    Calls P f vs.toArray W fun e w' => e = .returned (.bool true) ∧ Below W.heap.size W w' := by
  obtain ⟨ι1, H1, gvs, a1, a2, a3, a4, a5⟩ := open_args ts vs ds p h hv hz hok ι H hO
  obtain ⟨v, H2, k1, rfl⟩ := hlaw H1 gvs a3 a1.wf a5 ⟨ι1, a4⟩
  obtain ⟨n, k1⟩ := gev_some.1 k1
  exact law_of hb hmix hG hf k1 a1.wf a1.hr a4 a1.fresh
end
end Go.Gh
namespace Go.Gh
set_option linter.unusedVariables false
set_option linter.unusedSimpArgs false
open Go.RowKit

inductive Shp where
  | bool
  | int (k : IntKind)
  | str
  | sl (s : Shp)
  | st (l : List Shp)
mutual
def Shp.size : Shp → Nat
  | .bool | .int _ | .str | .sl _ => 1
  | .st l => Shp.sizes l
def Shp.sizes : List Shp → Nat
  | [] => 0
  | s :: r => s.size + Shp.sizes r
end
mutual
/-- how an element is aligned -/
def Shp.al : Shp → Nat
  | .bool => 1
  | .int k => k.bits / 8
  | .str | .sl _ => 8
  | .st l => Shp.als l
def Shp.als : List Shp → Nat
  | [] => 1
  | s :: r => max s.al (Shp.als r)
end
def alUp (a n : Nat) : Nat := (n + a - 1) / a * a
mutual
/-- bytes that an element takes at the least -/
def Shp.lo : Shp → Nat
  | .bool => 1
  | .int k => k.bits / 8
  | .str => 16
  | .sl _ => 24
  | .st l => alUp (Shp.als l) (Shp.los 0 l)
def Shp.los : Nat → List Shp → Nat
  | o, [] => o
  | o, s :: r => Shp.los (alUp s.al o + s.lo) r
end
mutual
def RdSQ (Q : Nat → Prop) (H : GHeap) : Shp → List Value → Prop
  | .bool, gs => ∃ b, gs = [.bool b]
  | .int k, gs => ∃ n, gs = [.int k n] ∧ (Lit.int k n).wf = true
  | .str, gs => ∃ s : ByteArray, gs = [.string s] ∧ s.size ≤ reachBytes ∧ Q s.size
  | .sl s, gs => ∃ (v : Value) (rows : List (List Value)), gs = [v] ∧ GArg1 H s.size v rows.length rows.flatten ∧ (rows.length ≤ maxLen ∧ rows.length * s.lo ≤ reachBytes ∧ Q rows.length) ∧ ∀ r ∈ rows, r.length = s.size ∧ RdSQ Q H s r
  | .st l, gs => RdSsQ Q H l gs
def RdSsQ (Q : Nat → Prop) (H : GHeap) : List Shp → List Value → Prop
  | [], gs => gs = []
  | s :: r, gs => ∃ a b, gs = a ++ b ∧ RdSQ Q H s a ∧ RdSsQ Q H r b
end
def shpsOf (rec : TypeId → Option Shp) : List Field → Option (List Shp)
  | [] => some []
  | f :: fs => match rec f.type, shpsOf rec fs with
    | some s, some r => some (s :: r)
    | _, _ => none
/-- a type's shape, if it has one -/
def shp (P : Program) : Nat → TypeId → Option Shp
  | 0, _ => none
  | d + 1, t => match P.underlying t with
    | some .bool => if P.cellsOf t = 1 then some .bool else none
    | some (.int k) => if P.cellsOf t = 1 then some (.int k) else none
    | some .string => if P.cellsOf t = 1 then some .str else none
    | some (.slice e) => match shp P d e with
      | some s => if P.cellsOf t = 1 ∧ P.cellsOf e = s.size ∧ 0 < s.size ∧ s.lo ≤ P.bytesOf e then some (.sl s) else none
      | none => none
    | some (.struct fs) => match shpsOf (shp P d) fs.toList with
      | some l => if fieldsK P.cellsOf fs.toList 0 (P.cellsOf t) = true then some (.st l) else none
      | none => none
    | some (.array n e) => match shpsOf (shp P d) (arrF P e n) with
      | some l => if fieldsK P.cellsOf (arrF P e n) 0 (P.cellsOf t) = true then some (.st l) else none
      | none => none
    | _ => none
section
variable {P : Program} {H : GHeap} {Q : Nat → Prop}
theorem shp_ok : ∀ (d : Nat) (t : TypeId) (s : Shp), shp P d t = some s → okT P d t = true ∧ ∀ gs, Rdb Q P H d t gs → RdSQ Q H s gs := by
  intro d
  induction d with
  | zero => intro t s h; cases h
  | succ d ih =>
    intro t s h
    unfold shp at h
    split at h
    · rename_i ht
      split at h
      · rename_i hc; cases h
        refine ⟨by unfold okT; rw [ht]; simpa using hc, fun gs hg => ?_⟩
        unfold Rdb at hg; rw [ht] at hg
        simp only [RdSQ]; exact hg
      · cases h
    · rename_i k ht
      split at h
      · rename_i hc; cases h
        refine ⟨by unfold okT; rw [ht]; simpa using hc, fun gs hg => ?_⟩
        unfold Rdb at hg; rw [ht] at hg
        simp only [RdSQ]; exact hg
      · cases h
    · rename_i ht
      split at h
      · rename_i hc; cases h
        refine ⟨by unfold okT; rw [ht]; simpa using hc, fun gs hg => ?_⟩
        unfold Rdb at hg; rw [ht] at hg
        simp only [RdSQ]; exact hg
      · cases h
    · rename_i e ht
      split at h
      · rename_i s' hs
        split at h
        · rename_i hc; cases h
          obtain ⟨k1, k2⟩ := ih e s' hs
          obtain ⟨h1, h2, h3, h4⟩ := hc
          refine ⟨by unfold okT; rw [ht]; simp [h1, h2, h3, k1], fun gs hg => ?_⟩
          unfold Rdb at hg; rw [ht] at hg
          simp only at hg
          rw [h2] at hg
          obtain ⟨v, rows, r1, r2, r3, r4⟩ := hg
          simp only [RdSQ]
          exact ⟨v, rows, r1, r2, ⟨r3.1, Nat.le_trans (Nat.mul_le_mul_left _ h4) r3.2.1, r3.2.2⟩, fun r hr => ⟨(r4 r hr).1, k2 _ (r4 r hr).2⟩⟩
        · cases h
      · cases h
    · rename_i fs ht
      split at h
      · rename_i l hl
        split at h
        · rename_i hc; cases h
          have key : ∀ (fs : List Field) (l : List Shp), shpsOf (shp P d) fs = some l → fs.all (fun f => okT P d f.type) = true ∧ ∀ gs, RdbF (Rdb Q P H d) fs gs → RdSsQ Q H l gs := by
            intro fs
            induction fs with
            | nil => intro l h; cases h; exact ⟨rfl, fun gs h => by simp only [RdSsQ]; exact h⟩
            | cons f fs ihf =>
              intro l h
              simp only [shpsOf] at h
              split at h
              · rename_i s r hs hr
                cases h
                obtain ⟨k1, k2⟩ := ih _ _ hs
                obtain ⟨k3, k4⟩ := ihf _ hr
                refine ⟨by simp only [List.all_cons, k1, k3, Bool.and_self], fun gs hg => ?_⟩
                obtain ⟨a, b, e, r1, r2⟩ := hg
                simp only [RdSsQ]
                exact ⟨a, b, e, k2 _ r1, k4 _ r2⟩
              · cases h
          obtain ⟨k1, k2⟩ := key _ _ hl
          refine ⟨by unfold okT; rw [ht]; simp only [hc, k1, Bool.and_self], fun gs hg => ?_⟩
          unfold Rdb at hg; rw [ht] at hg
          simp only [RdSQ]; exact k2 _ hg
        · cases h
      · cases h
    · rename_i nn e ht
      split at h
      · rename_i l hl
        split at h
        · rename_i hc; cases h
          have key : ∀ (fs : List Field) (l : List Shp), shpsOf (shp P d) fs = some l → fs.all (fun f => okT P d f.type) = true ∧ ∀ gs, RdbF (Rdb Q P H d) fs gs → RdSsQ Q H l gs := by
            intro fs
            induction fs with
            | nil => intro l h; cases h; exact ⟨rfl, fun gs h => by simp only [RdSsQ]; exact h⟩
            | cons f fs ihf =>
              intro l h
              simp only [shpsOf] at h
              split at h
              · rename_i s r hs hr
                cases h
                obtain ⟨k1, k2⟩ := ih _ _ hs
                obtain ⟨k3, k4⟩ := ihf _ hr
                refine ⟨by simp only [List.all_cons, k1, k3, Bool.and_self], fun gs hg => ?_⟩
                obtain ⟨a, b, e, r1, r2⟩ := hg
                simp only [RdSsQ]
                exact ⟨a, b, e, k2 _ r1, k4 _ r2⟩
              · cases h
          obtain ⟨k1, k2⟩ := key _ _ hl
          refine ⟨by unfold okT; rw [ht]; simp only [hc, k1, Bool.and_self], fun gs hg => ?_⟩
          unfold Rdb at hg; rw [ht] at hg
          simp only [RdSQ]; exact k2 _ hg
        · cases h
      · cases h
    · cases h
def RdAQ (Q : Nat → Prop) (H : GHeap) (s : Shp) (gv : Value) : Prop :=
  match s with
  | .st l => ∃ gs : List Value, gv = .agg gs.toArray ∧ RdSsQ Q H l gs
  | s => RdSQ Q H s [gv]
def RdAsQ (Q : Nat → Prop) (H : GHeap) : List Shp → List Value → Prop
  | [], gvs => gvs = []
  | s :: ss, gvs => ∃ gv r, gvs = gv :: r ∧ RdAQ Q H s gv ∧ RdAsQ Q H ss r
abbrev RdS := RdSQ (fun _ => True)
abbrev RdSs := RdSsQ (fun _ => True)
abbrev RdA := RdAQ (fun _ => True)
abbrev RdAs := RdAsQ (fun _ => True)
theorem RdV_shp {d : Nat} {t : TypeId} {s : Shp} (h : shp P d t = some s) {gv : Value} (hg : RdV Q P H d t gv) : RdAQ Q H s gv := by
  have hk := (shp_ok (H := H) (Q := Q) d t s h).2
  cases d with
  | zero => cases h
  | succ d =>
    unfold shp at h
    unfold RdV at hg
    split at h
    · rename_i ht
      split at h
      · cases h; rw [ht] at hg; exact hk _ hg
      · cases h
    · rename_i k ht
      split at h
      · cases h; rw [ht] at hg; exact hk _ hg
      · cases h
    · rename_i ht
      split at h
      · cases h; rw [ht] at hg; exact hk _ hg
      · cases h
    · rename_i e ht
      split at h
      · split at h
        · cases h; rw [ht] at hg; exact hk _ hg
        · cases h
      · cases h
    · rename_i fs ht
      split at h
      · split at h
        · cases h
          rw [ht] at hg
          obtain ⟨gs, e, k⟩ := hg
          have := hk _ k
          simp only [RdSQ] at this
          exact ⟨gs, e, this⟩
        · cases h
      · cases h
    · rename_i nn e ht
      split at h
      · split at h
        · cases h
          rw [ht] at hg
          obtain ⟨gs, e, k⟩ := hg
          have := hk _ k
          simp only [RdSQ] at this
          exact ⟨gs, e, this⟩
        · cases h
      · cases h
    · cases h
theorem RdVs_shp {d : Nat} : ∀ {ts : List TypeId} {ss : List Shp}, ts.map (shp P d) = ss.map some → ts.all (okT P d) = true ∧ ∀ gvs, RdVs Q P H d ts gvs → RdAsQ Q H ss gvs
  | [], [], _ => ⟨rfl, fun gvs h => h⟩
  | [], _ :: _, h => by simp at h
  | _ :: _, [], h => by simp at h
  | t :: ts, s :: ss, h => by
    simp only [List.map_cons, List.cons.injEq] at h
    obtain ⟨k1, k2⟩ := RdVs_shp h.2
    refine ⟨by simp only [List.all_cons, (shp_ok (H := H) (Q := Q) d t s h.1).1, k1, Bool.and_self], fun gvs hg => ?_⟩
    obtain ⟨gv, r, e, r1, r2⟩ := hg
    exact ⟨gv, r, e, RdV_shp h.1 r1, k2 _ r2⟩
theorem RdVs_shp_ok {d : Nat} {ts : List TypeId} {ss : List Shp} (h : ts.map (shp P d) = ss.map some) : ts.all (okT P d) = true := (RdVs_shp (Q := fun _ => True) (H := ⟨.nil, 0, 0⟩) h).1
/-! by shape -/
theorem RdAQ.int_ {k : IntKind} {gv : Value} (h : RdAQ Q H (.int k) gv) : ∃ n, gv = .int k n ∧ (Lit.int k n).wf = true := by
  simp only [RdAQ, RdSQ] at h
  obtain ⟨n, e, k⟩ := h
  exact ⟨n, by simpa using e, k⟩
theorem RdAQ.bool_ {gv : Value} (h : RdAQ Q H .bool gv) : ∃ b, gv = .bool b := by
  simp only [RdAQ, RdSQ] at h
  obtain ⟨n, e⟩ := h
  exact ⟨n, by simpa using e⟩
theorem RdAQ.str_ {gv : Value} (h : RdAQ Q H .str gv) : ∃ s : ByteArray, gv = .string s ∧ s.size ≤ reachBytes := by
  simp only [RdAQ, RdSQ] at h
  obtain ⟨n, e, k, _⟩ := h
  exact ⟨n, by simpa using e, k⟩
theorem RdAQ.strQ_ {gv : Value} (h : RdAQ Q H .str gv) : ∃ s : ByteArray, gv = .string s ∧ s.size ≤ reachBytes ∧ Q s.size := by
  simp only [RdAQ, RdSQ] at h
  obtain ⟨n, e, k⟩ := h
  exact ⟨n, by simpa using e, k⟩
/-- a slice whose elements are the cells of things of a Lean type -/
theorem RdAQ.slQ_ {α : Type} {f : α → List Value} {s : Shp} {gv : Value} (h : RdAQ Q H (.sl s) gv) (hf : ∀ r, RdSQ Q H s r → ∃ x, r = f x) : ∃ l : List α, GArg1 H s.size gv l.length (l.flatMap f) ∧ (l.length ≤ maxLen ∧ l.length * s.lo ≤ reachBytes ∧ Q l.length) ∧ ∀ x ∈ l, RdSQ Q H s (f x) := by
  simp only [RdAQ, RdSQ] at h
  obtain ⟨v, rows, e, k1, k2, k3⟩ := h
  simp at e
  subst e
  have key : ∀ rows : List (List Value), (∀ r ∈ rows, RdSQ Q H s r) → ∃ l : List α, rows = l.map f ∧ ∀ x ∈ l, RdSQ Q H s (f x) := by
    intro rows
    induction rows with
    | nil => intro _; exact ⟨[], rfl, by simp⟩
    | cons r rs ih =>
      intro h
      obtain ⟨l, rfl, hl⟩ := ih fun r hr => h r (by simp [hr])
      obtain ⟨x, rfl⟩ := hf r (h r (by simp))
      exact ⟨x :: l, rfl, by intro y hy; rcases List.mem_cons.1 hy with rfl | hy; · exact h _ (by simp)
                             · exact hl y hy⟩
  obtain ⟨l, rfl, hl⟩ := key rows fun r hr => (k3 r hr).2
  rw [List.length_map] at k1 k2
  exact ⟨l, by rw [List.flatMap_def]; exact k1, k2, hl⟩
/-- a slice whose elements are the cells of things of a Lean type -/
theorem RdAQ.sl_ {α : Type} {f : α → List Value} {s : Shp} {gv : Value} (h : RdAQ Q H (.sl s) gv) (hf : ∀ r, RdSQ Q H s r → ∃ x, r = f x) : ∃ l : List α, GArg1 H s.size gv l.length (l.flatMap f) ∧ (l.length ≤ maxLen ∧ l.length * s.lo ≤ reachBytes) ∧ ∀ x ∈ l, RdSQ Q H s (f x) := by
  obtain ⟨l, k1, k2, k3⟩ := h.slQ_ hf
  exact ⟨l, k1, ⟨k2.1, k2.2.1⟩, k3⟩
theorem RdAQ.ints_ {k : IntKind} {gv : Value} (h : RdAQ Q H (.sl (.int k)) gv) : ∃ l : List Int, GArg1 H 1 gv l.length (ints k l) ∧ (l.length ≤ maxLen ∧ l.length * (k.bits / 8) ≤ reachBytes) ∧ ∀ n ∈ l, (Lit.int k n).wf = true := by
  obtain ⟨l, k1, k2, k3⟩ := h.sl_ (f := fun n => [.int k n]) fun r hr => by
    simp only [RdSQ] at hr
    obtain ⟨n, e, _⟩ := hr; exact ⟨n, e⟩
  refine ⟨l, ?_, k2, fun n hn => ?_⟩
  · have : l.flatMap (fun n => [Value.int k n]) = ints k l := by
      unfold ints
      clear k1 k2 k3
      induction l with
      | nil => rfl
      | cons a l ih => rw [List.flatMap_cons, ih]; rfl
    rw [this] at k1; exact k1
  · have := k3 n hn
    simp only [RdSQ] at this
    obtain ⟨m, e, h⟩ := this
    simp at e
    subst e; exact h
theorem wf_i64 {n : Int} (h : (Lit.int .i64 n).wf = true) : -9223372036854775808 ≤ n ∧ n ≤ 9223372036854775807 := by
  simpa [Lit.wf, IntKind.min, IntKind.max, IntKind.signed, IntKind.bits] using h
theorem wf_i32 {n : Int} (h : (Lit.int .i32 n).wf = true) : -2147483648 ≤ n ∧ n ≤ 2147483647 := by
  simpa [Lit.wf, IntKind.min, IntKind.max, IntKind.signed, IntKind.bits] using h
theorem wf_u8 {n : Int} (h : (Lit.int .u8 n).wf = true) : 0 ≤ n ∧ n ≤ 255 := by
  simpa [Lit.wf, IntKind.min, IntKind.max, IntKind.signed, IntKind.bits] using h
theorem wf_u16 {n : Int} (h : (Lit.int .u16 n).wf = true) : 0 ≤ n ∧ n ≤ 65535 := by
  simpa [Lit.wf, IntKind.min, IntKind.max, IntKind.signed, IntKind.bits] using h
theorem sized_each {T : Type} {ts ts2 : List TypeId} {ds gs : List (DataW T)} (h : (DataW.weightsEach P (ts ++ ts2) (ds ++ gs)).all (· ≤ reachBytes) = true) (j : Nat) (t : TypeId) (d : DataW T) (ht : ts[j]? = some t) (hd : ds[j]? = some d) : ∀ m ∈ d.weights P t, m ≤ reachBytes := by
  intro m hm
  have h1 : (ts ++ ts2)[j]? = some t := by rw [List.getElem?_append_left (List.getElem?_eq_some_iff.1 ht).1]; exact ht
  have h2 : (ds ++ gs)[j]? = some d := by rw [List.getElem?_append_left (List.getElem?_eq_some_iff.1 hd).1]; exact hd
  have := List.all_eq_true.1 h m (DataW.weights_mem_each h1 h2 m hm)
  simpa using this
/-- a law's call, by shapes -/
theorem law_shpQ {W : World} {T : Type} {enc : TypeId × Value → T} (hb : szK P P.rt.byte = some 1) (hmix : P.follows .mixedOrders = true) {G : FuncId → Option GEnt} (hG : GOk P G) {f : FuncId} {g : GFun} (hf : G f = some (.fn g)) (D : Nat) {r : _root_.Go.Reach} {base : Nat}
    {ts : List TypeId} {vs : List Value} {ds : List (DataW T)} {p : List MemPlace} (h : DataW.TrodAll enc P W 0 (fun _ => true) true ts vs ds p) (hv : ∀ (j : Nat) t v, ts[j]? = some t → vs[j]? = some v → Value.okWide P W r base t v) (hz : ∀ (j : Nat) t d, ts[j]? = some t → ds[j]? = some d → ∀ m ∈ d.weights P t, m ≤ reachBytes) (hq : ∀ (j : Nat) d, ds[j]? = some d → ∀ m ∈ dims d, Q m) {ss : List Shp} (hs : ts.map (shp P D) = ss.map some)
    {ι : Inj} {H : GHeap} (hO : Opn P W ι H) (hlaw : ∀ H' gvs, Ext H H' → H'.wf → RdAsQ Q H' ss gvs → (∃ ι', VRs ι' gvs vs) → ∃ v H2, gev G f gvs H' = some (v, H2) ∧ v = .bool true) :
    Calls P f vs.toArray W fun e w' => e = .returned (.bool true) ∧ Below W.heap.size W w' :=
  law_calls (Q := Q) hb hmix hG hf h hv (fun j t d ht hd => ⟨hz j t d ht hd, hq j d hd⟩) (RdVs_shp_ok hs) hO fun H' gvs he hw hr hv => hlaw H' gvs he hw ((RdVs_shp hs).2 _ hr) hv
/-- .. of any lengths -/
theorem law_shp {W : World} {T : Type} {enc : TypeId × Value → T} (hb : szK P P.rt.byte = some 1) (hmix : P.follows .mixedOrders = true) {G : FuncId → Option GEnt} (hG : GOk P G) {f : FuncId} {g : GFun} (hf : G f = some (.fn g)) (D : Nat) {r : _root_.Go.Reach} {base : Nat}
    {ts : List TypeId} {vs : List Value} {ds : List (DataW T)} {p : List MemPlace} (h : DataW.TrodAll enc P W 0 (fun _ => true) true ts vs ds p) (hv : ∀ (j : Nat) t v, ts[j]? = some t → vs[j]? = some v → Value.okWide P W r base t v) (hz : ∀ (j : Nat) t d, ts[j]? = some t → ds[j]? = some d → ∀ m ∈ d.weights P t, m ≤ reachBytes) {ss : List Shp} (hs : ts.map (shp P D) = ss.map some)
    {ι : Inj} {H : GHeap} (hO : Opn P W ι H) (hlaw : ∀ H' gvs, Ext H H' → H'.wf → RdAsQ (fun _ => True) H' ss gvs → (∃ ι', VRs ι' gvs vs) → ∃ v H2, gev G f gvs H' = some (v, H2) ∧ v = .bool true) :
    Calls P f vs.toArray W fun e w' => e = .returned (.bool true) ∧ Below W.heap.size W w' :=
  law_shpQ hb hmix hG hf D h hv hz (fun _ _ _ _ _ => trivial) hs hO hlaw
end
end Go.Gh
