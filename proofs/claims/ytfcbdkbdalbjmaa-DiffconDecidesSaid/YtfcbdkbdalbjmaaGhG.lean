/-
  Literals of structs and arrays, lists of operands; all operations that leave the objects as they are.
-/
import Derived.Test.YtfcbdkbdalbjmaaGhF
import Derived.Laws.Tables
namespace Go.Gh
set_option linter.unusedVariables false
set_option linter.unusedSimpArgs false
open Go.RowKit

section
variable {P : Program} {base lim : Nat} {ι : Inj} {H : GHeap} {w : World} {fr : Fr} {act : Act}

theorem cArgs_ok {t : Tr GObj} (hfr : FR ι fr act) (h : HR P base lim ι t w) : ∀ (xs : List Operand) (as : List GArg) (vs : List Value), cArgs P xs = some as → evs fr as = some vs → VRs ι vs (xs.map act.eval)
  | [], as, vs, hc, hv => by cases hc; cases hv; exact .nil
  | x :: xs, as, vs, hc, hv => by
    simp only [cArgs] at hc
    split at hc
    · rename_i a l ha hl
      cases hc
      simp only [evs] at hv
      split at hv
      · rename_i v r hv1 hr
        cases hv
        exact .cons (cArg_ok ha hv1 hfr h) (cArgs_ok hfr h xs l r hl hr)
      · cases hv
    · cases hc
theorem cOpt_ok {t : Tr GObj} (hfr : FR ι fr act) (h : HR P base lim ι t w) {x : Option Operand} {a : Option GArg} {v : Option Value} (hc : cOpt P x = some a) (hv : evOpt fr a = some v) : OptR ι v (x.map act.eval) := by
  cases x with
  | none => cases hc; cases hv; trivial
  | some x =>
    simp only [cOpt, Option.map_eq_some_iff] at hc
    obtain ⟨a', ha, rfl⟩ := hc
    simp only [evOpt, Option.map_eq_some_iff] at hv
    obtain ⟨v', hv, rfl⟩ := hv
    exact cArg_ok ha hv hfr h

theorem fold_set : ∀ (vs : List Value) (j off : Nat) (cs : Array Value), off + j + vs.length ≤ cs.size →
    ((vs.zipIdx j).foldl (fun cs (x : Value × Nat) => cs.setIfInBounds (off + x.2) x.1) cs).toList = cs.toList.take (off + j) ++ vs ++ cs.toList.drop (off + j + vs.length)
  | [], j, off, cs, h => by simp
  | v :: r, j, off, cs, h => by
    rw [List.zipIdx_cons, List.foldl_cons, fold_set r (j + 1) off _ (by simp at h ⊢; omega)]
    simp only [Array.toList_setIfInBounds, List.length_cons]
    have h1 : off + j < cs.toList.length := by simp at h ⊢; omega
    rw [show off + (j + 1) = off + j + 1 by omega, List.take_add_one, List.take_set_of_le (Nat.le_refl _), List.getElem?_set_self h1, List.drop_set_of_lt (by omega)]
    simp [List.append_assoc]
    congr 1
    omega
theorem fill_ok {pl : Nat → Option (Nat × Nat)} : ∀ (ps : List (Nat × Value)) (qs : List (Nat × Nat × Value)) (cells : List Value) (ds : Array Value) (cs : List Value), qs.length = ps.length →
    (∀ (j : Nat) o n v, qs[j]? = some (o, n, v) → ∃ i v', ps[j]? = some (i, v') ∧ pl i = some (o, n) ∧ VR ι v v') → VRs ι cells ds.toList → fillL cells qs = some cs →
    ∃ ds', Instr.fill pl ds ps = some ds' ∧ VRs ι cs ds'.toList
  | [], qs, cells, ds, cs, hl, hq, hd, hf => by
    obtain rfl : qs = [] := List.eq_nil_of_length_eq_zero hl
    cases hf
    exact ⟨ds, rfl, hd⟩
  | (i, v') :: ps, [], cells, ds, cs, hl, hq, hd, hf => by simp at hl
  | (i, v') :: ps, (o, n, v) :: qs, cells, ds, cs, hl, hq, hd, hf => by
    obtain ⟨i', v2, h1, h2, h3⟩ := hq 0 o n v (by simp)
    simp at h1
    obtain ⟨rfl, rfl⟩ := h1
    simp only [fillL] at hf
    split at hf
    · cases hf
    · rename_i hc
      simp only [ne_eq, decide_not, gt_iff_lt, Bool.or_eq_true, Bool.not_eq_eq_eq_not, Bool.not_true, decide_eq_false_iff_not, decide_eq_true_eq, List.all_eq_false, not_or, Decidable.not_not, not_exists, not_and, Nat.not_lt] at hc
      obtain ⟨⟨hc1, hc2⟩, hc3⟩ := hc
      have hcells := h3.cells (fun u hu => by simpa using hc3 u hu)
      have hsz : v'.cells.size = n := by have := hcells.1; simp at this hc1 ⊢; omega
      have hds : ds.size = cells.length := by have := hd.1; simp at this; omega
      have hstep : (v'.cells.zipIdx.foldl (fun cs (x : Value × Nat) => cs.setIfInBounds (o + x.2) x.1) ds).toList = ds.toList.take o ++ v'.cells.toList ++ ds.toList.drop (o + n) := by
        rw [← Array.foldl_toList, Array.toList_zipIdx]
        have := fold_set v'.cells.toList 0 o ds (by simp; omega)
        simpa [hsz] using this
      have hrel : VRs ι (cells.take o ++ v.cells.toList ++ cells.drop (o + n)) (v'.cells.zipIdx.foldl (fun cs (x : Value × Nat) => cs.setIfInBounds (o + x.2) x.1) ds).toList := by
        rw [hstep]
        exact ((hd.take o).append hcells).append (hd.drop (o + n))
      obtain ⟨ds', h4, h5⟩ := fill_ok ps qs _ _ cs (by simpa using hl) (fun j o' n' u hu => by simpa using hq (j + 1) o' n' u (by simpa using hu)) hrel hf
      refine ⟨ds', ?_, h5⟩
      simp only [Instr.fill, h2]
      rw [if_neg (by simp [hsz]; omega)]
      exact h4
theorem cParts_ok {t : Tr GObj} {pl : Nat → Option (Nat × Nat)} (hfr : FR ι fr act) (h : HR P base lim ι t w) : ∀ (ps : List (Nat × Operand)) (as : List (Nat × Nat × GArg)) (vs : List (Nat × Nat × Value)), cParts P pl ps = some as → evParts fr as = some vs →
    vs.length = (ps.map fun (i, x) => (i, act.eval x)).length ∧ ∀ (j : Nat) o n v, vs[j]? = some (o, n, v) → ∃ i v', (ps.map fun (i, x) => (i, act.eval x))[j]? = some (i, v') ∧ pl i = some (o, n) ∧ VR ι v v'
  | [], as, vs, hc, hv => by cases hc; cases hv; simp
  | (i, x) :: ps, as, vs, hc, hv => by
    simp only [cParts] at hc
    split at hc
    · rename_i o n a l hp ha hl
      cases hc
      simp only [evParts] at hv
      split at hv
      · rename_i v r hv1 hr
        cases hv
        obtain ⟨h1, h2⟩ := cParts_ok hfr h ps l r hl hr
        refine ⟨by simp at h1 ⊢; omega, fun j o' n' u hu => ?_⟩
        cases j with
        | zero => simp at hu; obtain ⟨rfl, rfl, rfl⟩ := hu; exact ⟨i, _, by simp, hp, cArg_ok ha hv1 hfr h⟩
        | succ j => simpa using h2 j o' n' u (by simpa using hu)
      · cases hv
    · cases hc
theorem zeroK_some {t : TypeId} {z : Value} (h : zeroK P t = some z) : ∃ i, P.info? t = some i ∧ i.zero = some z ∧ (∀ v ∈ z.cells.toList, litFlat v = true) ∧ litOk z = true := by
  unfold zeroK at h
  simp only [Option.bind_eq_some_iff] at h
  obtain ⟨i, hi, z', hz, h⟩ := h
  split at h
  · rename_i hc
    cases h
    simp only [Bool.and_eq_true, Array.all_eq_true] at hc
    exact ⟨i, hi, hz, fun v hv => by obtain ⟨j, hj, rfl⟩ := List.getElem_of_mem hv; simpa using hc.1 j (by simpa using hj), hc.2⟩
  · cases h
theorem placesK_some : ∀ (fs : List Field) (ps : List (Nat × Nat)), placesK P fs = some ps → fs.mapM (fun f => (P.info? f.type).map fun i => (f.offset, i.size)) = some ps
  | [], ps, h => by cases h; rfl
  | f :: fs, ps, h => by
    simp only [placesK] at h
    split at h
    · rename_i n r hn hr
      cases h
      unfold szK at hn
      simp only [Option.map_eq_some_iff] at hn
      obtain ⟨i, hi, rfl⟩ := hn
      simp [List.mapM_cons, hi, placesK_some fs r hr]
    · cases h
theorem build_ok {tt : Tr GObj} (hfr : FR ι fr act) (h : HR P base lim ι tt w) {t : TypeId} {ps : Array (Nat × Operand)} {z : Value} {as : List (Nat × Nat × GArg)} {vs : List (Nat × Nat × Value)} {cs : List Value}
    (hz : zeroK P t = some z) (hpo : placeOk P t = true) (hp : cParts P (placeK P t) ps.toList = some as) (hv : evParts fr as = some vs) (hf : fillL z.cells.toList vs = some cs) :
    ∃ r', (Instr.build t (ps.map fun (i, x) => (i, act.eval x))).run P w = .ok r' w ∧ VR ι (.agg cs.toArray) r' := by
  obtain ⟨i, hi, hiz, hl, _⟩ := zeroK_some hz
  obtain ⟨h1, h2⟩ := cParts_ok hfr h ps.toList as vs hp hv
  have hz0 : VRs ι z.cells.toList z.cells.toList := VRs.lits hl
  obtain ⟨ds', e1, e2⟩ := fill_ok _ vs _ z.cells cs h1 h2 hz0 hf
  have hb : ∀ (pl : Nat → Option (Nat × Nat)), (∀ i, placeK P t i = pl i) → Instr.fill pl z.cells (ps.toList.map fun (i, x) => (i, act.eval x)) = some ds' := fun pl e => by
    rw [← show placeK P t = pl from funext e]; exact e1
  unfold placeOk at hpo
  refine ⟨.agg ds', run_build w t _ ds' ?_, ?_⟩
  · unfold Program.built
    split at hpo
    · rename_i fs hu
      obtain ⟨pl, hpl⟩ := Option.isSome_iff_exists.1 hpo
      simp only [hi, hu, hiz, placesK_some _ _ hpl]
      rw [Array.toList_map]
      refine hb _ fun i => ?_
      simp [placeK, hu, hpl]
    · rename_i n e hu
      unfold szK at hpo
      cases hie : P.info? e with
      | none => rw [hie] at hpo; cases hpo
      | some ie =>
        simp only [hi, hu, hiz, hie]
        rw [Array.toList_map]
        refine hb _ fun i => ?_
        simp [placeK, hu, szK, hie]
    · cases hpo
  · have := VR.agg_of e2
    simpa using this
/-- a new variable or row, of cells -/
theorem alloc_ok (h : HR P base lim ι H.t w) (hn : ι H.len = none) {cs : List Value} {u : Nat} {C : Array Value} {t : TypeId} {fr : Nat × Nat} {w1 : World} (hw : Le w w1) (hs : w1.heap.size = w.heap.size)
    (hf : ∀ v ∈ cs, flatV v = true) {ds : List Value} (hd : VRs ι cs ds) (hC : ∀ (j : Nat) v, ds[j]? = some v → C[j]? = some v) (hCl : ds.length ≤ C.size) (hfr : fr.1 = fr.2 ∨ C.size ≤ fr.1) (hu : u = 257 → t = P.rt.byte) :
    Le w (w1.alloc (.cells C t fr)) ∧ HR P base lim (ι.upd H.len ⟨w.heap.size, 0, usz u, C.size⟩) (H.add (some (.cells cs u true))).t (w1.alloc (.cells C t fr)) := by
  have hle : Le w (w1.alloc (.cells C t fr)) := hw.trans (Le.alloc w1 _)
  refine ⟨hle, h.fresh hn hle (Nat.le_refl _) (by simp; omega) ?_⟩
  have hb : (w1.alloc (.cells C t fr)).heap[w.heap.size]? = some (.cells C t fr) := by
    rw [← hs]; show (w1.heap.push _)[w1.heap.size]? = _; simp
  refine ⟨rfl, fun j v hv => ⟨hf v (List.mem_of_getElem? hv), ?_⟩, fun _ _ => ⟨h.low, ?_, C, t, fr, hb, rfl, hfr, hu⟩⟩
  · obtain ⟨v', h1, h2⟩ := hd.2 j v hv
    refine ⟨v', ?_, h2.mono (Inj.le_upd _ hn)⟩
    simp only [World.cell?, hb, Nat.zero_add]
    simpa using hC j v' h1
  · have := hd.1; simp; omega
theorem upd_ptr {n : Nat} {L : GLoc} : VR (ι.upd n L) (.pointer (some ⟨n, 0, none⟩)) (.pointer (some ⟨L.block, L.off, none⟩)) := by
  have := VR.ptr (o := 0) (Inj.upd_same ι n L)
  simpa using this
end
end Go.Gh
