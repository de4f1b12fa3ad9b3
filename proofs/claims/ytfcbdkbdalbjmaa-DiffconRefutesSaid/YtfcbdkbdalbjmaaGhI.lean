/-
  Stores and appends.
-/
import Derived.Test.YtfcbdkbdalbjmaaGhH
namespace Go.Gh
set_option linter.unusedVariables false
set_option linter.unusedSimpArgs false
open Go.RowKit

section
variable {P : Program} {base lim : Nat} {ι : Inj} {H : GHeap} {w : World} {fr : Fr} {act : Act}

def setA (C : Array Value) : Nat → List Value → Array Value
  | _, [] => C
  | o, v :: r => setA (C.setIfInBounds o v) (o + 1) r
theorem setA_size : ∀ (vs : List Value) (C : Array Value) (o : Nat), (setA C o vs).size = C.size
  | [], _, _ => rfl
  | v :: r, C, o => by rw [setA, setA_size r]; simp
theorem setCells_heap (b : Nat) : ∀ (vs : List Value) (o : Nat) (w : World) (C : Array Value) (t : TypeId) (f : Nat × Nat), w.heap[b]? = some (.cells C t f) →
    (w.setCells b o vs).heap[b]? = some (.cells (setA C o vs) t f) ∧ (w.setCells b o vs).heap.size = w.heap.size ∧ (∀ k, k ≠ b → (w.setCells b o vs).heap[k]? = w.heap[k]?) ∧ (w.setCells b o vs).os = w.os ∧ (w.setCells b o vs).tape = w.tape ∧ (w.setCells b o vs).output = w.output
  | [], o, w, C, t, f, h => ⟨h, rfl, fun _ _ => rfl, rfl, rfl, rfl⟩
  | v :: r, o, w, C, t, f, h => by
    have h1 : (w.setCell ⟨b, o, none⟩ v).heap[b]? = some (.cells (C.setIfInBounds o v) t f) := by simp [World.setCell, Array.getElem?_modify, h]
    obtain ⟨g1, g2, g3, g4, g5, g6⟩ := setCells_heap b r (o + 1) (w.setCell ⟨b, o, none⟩ v) _ t f h1
    refine ⟨g1, g2.trans (by simp), fun k hk => (g3 k hk).trans (Below.heap_setCell w ⟨b, o, none⟩ v k hk), g4, g5, g6⟩
theorem frozen_no {b : Nat} {C : Array Value} {t : TypeId} {f : Nat × Nat} (h : w.heap[b]? = some (.cells C t f)) (hf : f.1 = f.2 ∨ C.size ≤ f.1) {o : Nat} (ho : o < C.size) : w.frozen? ⟨b, o, none⟩ = false := by
  simp only [World.frozen?, h]
  obtain ⟨f1, f2⟩ := f
  simp only at hf
  rcases hf with rfl | hf
  · by_cases h1 : f1 ≤ o <;> simp [h1]
  · have : ¬ f1 ≤ o := by omega
    simp [this]
/-- cells stored into a row that is known -/
theorem raw_store {b o : Nat} {vs : List Value} {C : Array Value} {t : TypeId} {f : Nat × Nat} (h : w.heap[b]? = some (.cells C t f)) (hf : f.1 = f.2 ∨ C.size ≤ f.1) (hl : o + vs.length ≤ C.size) (h1 : ∀ v ∈ vs, v.oneCell' = true) :
    (storeCells ⟨b, o, none⟩ vs).run P w = .ok () (w.setCells b o vs) ∧ (∀ (j : Nat) v, vs[j]? = some v → (w.setCells b o vs).cell? ⟨b, o + j, none⟩ = some v) ∧
    (∀ j, (j < o ∨ o + vs.length ≤ j) → (w.setCells b o vs).cell? ⟨b, j, none⟩ = w.cell? ⟨b, j, none⟩) := by
  have hc : ∀ j, j < vs.length → (w.cell? ⟨b, o + j, none⟩).isSome = true := fun j hj => by
    have : o + j < C.size := by omega
    simp [World.cell?, h, this]
  refine ⟨?_, fun j v hv => ?_, fun j hj => ?_⟩
  · have := run_storeCells_cells (P := P) b o vs 0 w (by simpa using hc) (fun j hj => frozen_no h hf (by simp; omega)) h1
    simpa using this
  · obtain ⟨hj, rfl⟩ := List.getElem?_eq_some_iff.1 hv
    have := World.cell?_setCells_in b vs o w hc j hj
    simpa [hj] using this
  · exact World.cell?_setCells_out b vs o w ⟨b, j, none⟩ (fun _ _ => by simpa using hj)

theorem mine_some {i : Nat} {cs : List Value} {u : Nat} (h : H.mine i = some (cs, u)) : H.lim ≤ i ∧ H.t.get i = some (.cells cs u true) := by
  unfold GHeap.mine GHeap.obj at h
  split at h
  · rename_i hl
    split at h
    · rename_i ho
      cases h
      exact ⟨hl, ho⟩
    · cases h
  · cases h
/-- a store into an object of one's own; what lies in no other object's block stays -/
theorem store_ok (h : HR P base H.lim ι H.t w) {i : Nat} {l : GLoc} (hi : ι i = some l) {cs : List Value} {u : Nat} (hm : H.mine i = some (cs, u)) {o : Nat} {vs vs' : List Value} (hv : VRs ι vs vs') (hf : ∀ v ∈ vs, flatV v = true) (ho : o + vs.length ≤ cs.length) :
    ∃ w', (storeCells ⟨l.block, l.off + o, none⟩ vs').run P w = .ok () w' ∧ HR P base H.lim ι (H.put i (.cells (cs.take o ++ vs ++ cs.drop (o + vs.length)) u true)).t w' ∧ Below base w w' ∧ w'.heap.size = w.heap.size ∧ (∀ k, k ≠ l.block → w'.heap[k]? = w.heap[k]?) := by
  obtain ⟨hlim, hobj⟩ := mine_some hm
  have hr := h.obj i l _ hi hobj
  obtain ⟨hu, hcells, hown⟩ := hr
  obtain ⟨hb, hsz, C, t, f, hheap, hC, hfr, hbyte⟩ := hown rfl hlim
  have hvl : vs'.length = vs.length := hv.1.symm
  obtain ⟨r1, r2, r3⟩ := raw_store (P := P) (o := l.off + o) hheap hfr (by omega) (hv.flat hf)
  obtain ⟨g1, g2, g3, g4, g5, g6⟩ := setCells_heap l.block vs' (l.off + o) w C t f hheap
  refine ⟨_, r1, ?_, ⟨g4, g5, g6, by omega, fun k hk => g3 k (by omega)⟩, g2, g3⟩
  refine h.turn hi hobj hlim rfl g2 g3 ⟨hu, fun j v hj => ?_, fun _ _ => ⟨hb, ?_, setA C (l.off + o) vs', t, f, g1, by rw [setA_size]; exact hC, by rw [setA_size]; exact hfr, hbyte⟩⟩
  · rw [List.append_assoc, List.getElem?_append] at hj
    split at hj
    · rename_i h1
      rw [List.getElem?_take] at hj
      split at hj
      · rename_i h2
        obtain ⟨q1, v', q2, q3⟩ := hcells j v hj
        exact ⟨q1, v', by rw [r3 _ (.inl (by omega))]; exact q2, q3⟩
      · cases hj
    · rename_i h1
      have h1' : ¬ j < o := by simp at h1; omega
      have e : (cs.take o).length = o := by simp; omega
      rw [e, List.getElem?_append] at hj
      split at hj
      · rename_i h2
        obtain ⟨v', q1, q2⟩ := hv.2 _ v hj
        refine ⟨hf v (List.mem_of_getElem? hj), v', ?_, q2⟩
        have := r2 _ v' q1
        rw [show l.off + j = l.off + o + (j - o) by omega]
        exact this
      · rename_i h2
        rw [List.getElem?_drop] at hj
        have e2 : o + vs.length + (j - o - vs.length) = j := by omega
        rw [e2] at hj
        obtain ⟨q1, v', q2, q3⟩ := hcells j v hj
        exact ⟨q1, v', by rw [r3 _ (.inr (by omega))]; exact q2, q3⟩
  · simp; omega
theorem take_set_drop (cs : List Value) (o : Nat) (v : Value) (h : o < cs.length) : cs.take o ++ [v] ++ cs.drop (o + 1) = cs.set o v := by
  rw [List.set_eq_take_append_cons_drop, if_pos h]; simp

/-- the model's store -/
theorem gst_ok (h : HR P base H.lim ι H.t w) {t : TypeId} {k : Option Nat} (hk : stK P t = some k) {p p' v v' : Value} (hp : VR ι p p') (hv : VR ι v v') {H' : GHeap} (hr : gst k H p v = some H') :
    ∃ w' i l, (Instr.storeAt t p' v').run P w = .ok () w' ∧ HR P base H.lim ι H'.t w' ∧ H'.len = H.len ∧ H'.lim = H.lim ∧ Below base w w' ∧ w'.heap.size = w.heap.size ∧ ι i = some l ∧ idOf p = [i] ∧ (∀ q, q ≠ i → H'.t.get q = H.t.get q) ∧ H'.unit i = H.unit i ∧ (∀ k, k ≠ l.block → w'.heap[k]? = w.heap[k]?) := by
  unfold gst at hr
  split at hr
  · rename_i i o
    obtain ⟨l, hl, rfl⟩ := hp.ptr_inv
    split at hr
    · cases hr
    · rename_i cs u hm
      obtain ⟨_, hobj⟩ := mine_some hm
      have hunit : ∀ cs', (H.put i (.cells cs' u true)).unit i = H.unit i := fun cs' => by
        simp [GHeap.unit, GHeap.obj, GHeap.put, hobj, GObj.unit]
      have hother : ∀ cs' q, q ≠ i → (H.put i (.cells cs' u true)).t.get q = H.t.get q := fun cs' q hq => Tr.get_set_ne _ _ (Ne.symm hq)
      cases k with
      | none =>
        simp only at hr
        split at hr
        · rename_i hc
          cases hr
          have hs1 : szK P t = some 1 := by
            unfold stK at hk
            split at hk
            · split at hk
              · assumption
              · cases hk
            · rename_i hne; exact absurd hk (by intro e; exact hne e)
          obtain ⟨w', r1, r2, r3, r4, r5⟩ := store_ok h hl hm (o := o) (vs := [v]) (vs' := [v']) (.cons hv .nil) (by intro u hu; simp at hu; subst hu; exact hc.2) (by simp; omega)
          rw [show o + [v].length = o + 1 by simp, take_set_drop cs o v hc.1] at r2
          refine ⟨w', i, l, ?_, r2, rfl, rfl, r3, r4, hl, rfl, hother _, hunit _, r5⟩
          have hcl : v'.cells = #[v'] := by
            have := (hv.flat hc.2).1
            cases v' <;> simp_all [flatV, Value.cells]
          simp [Instr.storeAt, Instr.sureAddr, storeVar, szK_run hs1, hcl, r1]
        · cases hr
      | some n =>
        simp only at hr
        split at hr
        · rename_i vs
          split at hr
          · rename_i hc
            cases hr
            obtain ⟨hc1, hc2, hc3⟩ := hc
            have hs1 : szK P t = some n := by
              unfold stK at hk
              split at hk
              · split at hk <;> cases hk
              · unfold ldK at hk
                split at hk
                · cases hk
                · split at hk
                  · simpa using hk
                  · cases hk
            obtain ⟨ds, rfl, hds⟩ := hv.agg_inv
            have hln : vs.toList.length = n := by simpa using hc1
            have hdn : ds.size = n := by have := hds.1; simp at this; omega
            obtain ⟨w', r1, r2, r3, r4, r5⟩ := store_ok h hl hm (o := o) hds (by
              intro x hx
              obtain ⟨j, hj, rfl⟩ := List.getElem_of_mem hx
              have := (Array.all_eq_true.1 hc3) j (by simpa using hj)
              simpa using this) (by omega)
            rw [hln] at r2
            refine ⟨w', i, l, ?_, r2, rfl, rfl, r3, r4, hl, rfl, hother _, hunit _, r5⟩
            simp [Instr.storeAt, Instr.sureAddr, storeVar, szK_run hs1, Value.cells, hdn, r1]
          · cases hr
        · cases hr
  · cases hr
end
end Go.Gh
