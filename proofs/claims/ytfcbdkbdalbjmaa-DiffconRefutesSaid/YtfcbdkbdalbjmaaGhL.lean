/-
  All operations.
-/
import Derived.Test.YtfcbdkbdalbjmaaGhK
namespace Go.Gh
set_option linter.unusedVariables false
set_option linter.unusedSimpArgs false
open Go.RowKit

section
variable {P : Program} {base lim : Nat} {ι : Inj} {H : GHeap} {w : World} {fr : Fr} {act : Act}

theorem execOp_eq {dst : Option Tmp} {op : Op} {ty : TypeId} {pos : String} {after : Array Edge} {guard : Option (Nat × Bool)} : True := trivial

/-- operand lists as arrays -/
theorem arr_eval (xs : Array Operand) (act : Act) : (xs.map act.eval).toList = xs.toList.map act.eval := by simp
theorem litFlat_of {v : Value} (h : litFlat v = true) : VR ι v v := .lit h

theorem box_ok (h : HR P base lim ι H.t w) (hn : ι H.len = none) {e : TypeId} {v v' : Value} (hv : VR ι v v') (hf : v.cells.all flatV = true) :
    MOk P base lim ι H w (.pointer (some ⟨H.len, 0, none⟩)) (some (.cells v.cells.toList 0 true)) (do pure (.value (← Instr.box e v'))) := by
  have hfl : ∀ u ∈ v.cells.toList, flatV u = true := by
    intro x hx
    obtain ⟨j, hj, rfl⟩ := List.getElem_of_mem hx
    have := (Array.all_eq_true.1 hf) j (by simpa using hj)
    simpa using this
  have hc := hv.cells hfl
  refine MOk.row h hn (Le.refl w) rfl (C := v'.cells) (t := e) (f := (0, 0)) hfl hc (fun j x hx => by simpa using hx) (by simp) (.inl rfl) (by simp) (by simp [Instr.box, newVar_run]) upd_ptr
theorem alloc_op_ok (h : HR P base lim ι H.t w) (hn : ι H.len = none) {e : TypeId} {z : Value} (hz : zeroK P e = some z) :
    MOk P base lim ι H w (.pointer (some ⟨H.len, 0, none⟩)) (some (.cells z.cells.toList 0 true)) (do pure (.value (← Instr.alloc e true (.tuple #[])))) := by
  obtain ⟨i, hi, hiz, hl, _⟩ := zeroK_some hz
  refine MOk.row h hn (Le.refl w) rfl (C := z.cells) (t := e) (f := (0, 0)) (fun v hv => flatV_lit (hl v hv)) (VRs.lits hl) (fun j x hx => by simpa using hx) (by simp) (.inl rfl) (by simp) (by simp [Instr.alloc, zeroValue, typeInfo, hi, hiz, newVar_run]) upd_ptr
theorem rng_ok (h : HR P base lim ι H.t w) (hn : ι H.len = none) {t : TypeId} (ht : P.underlying t = some .string) {s : ByteArray} :
    MOk P base lim ι H w (.pointer (some ⟨H.len, 0, none⟩)) (some (.iter s 0)) (do pure (.value (← Instr.range t (.string s)))) := by
  have hle : Le w (w.alloc (.stringIter s 0)) := Le.alloc w _
  refine ⟨.pointer (some ⟨w.heap.size, 0, none⟩), ι.upd H.len ⟨w.heap.size, 0, 0, 0⟩, w.alloc (.stringIter s 0), ?_, hle, upd_ptr, ?_, by simp, fun o _ => ⟨_, rfl, Nat.le_refl _⟩⟩
  · simp [Instr.range, run_underlying ht]
  · refine h.fresh hn hle (Nat.le_refl _) (by simp) ⟨rfl, rfl, ?_, fun _ => h.low⟩
    show (w.heap.push _)[w.heap.size]? = _
    simp
theorem buildSl_ok (hfr : FR ι fr act) (h : HR P base lim ι H.t w) (hb : szK P P.rt.byte = some 1) (hn : ι H.len = none) {t : TypeId} {n : Nat} {ps : Array (Nat × Operand)} {z : List Value} {b u : Nat} (hk : mkK P t = some (z, b, u)) (hle : n * z.length ≤ 16777216)
    {as : List (Nat × Nat × GArg)} {vs : List (Nat × Nat × Value)} {cs : List Value} (hp : cParts P (fun i => some (i * z.length, z.length)) ps.toList = some as) (hv : evParts fr as = some vs) (hf : fillL (zeros z n) vs = some cs) (hflat : ∀ v ∈ cs, flatV v = true) (hcl : cs.length = n * z.length) :
    MOk P base lim ι H w (.slice (some ⟨H.len, 0, none⟩) n (n + 1)) (some (.cells cs u true)) (do pure (.value (← Instr.buildSlice t n (ps.map fun (i, x) => (i, act.eval x))))) := by
  obtain ⟨e, i, zv, hu, hi, hz, rfl, hsz, hzl, h0, hlit, rfl⟩ := mkK_some hk
  obtain ⟨h1, h2⟩ := cParts_ok hfr h ps.toList as vs hp hv
  have hmz := madeZeros zv z hzl n h0
  have hz0 : VRs ι (zeros z n) ((Array.range (n * z.length)).map (zv.cells[· % zv.cells.size]!)).toList := by
    rw [hmz]; exact VRs.lits fun v hv => hlit v (zeros_mem hv)
  obtain ⟨ds', e1, e2⟩ := fill_ok (pl := fun i => some (i * z.length, z.length)) _ vs _ _ cs h1 h2 hz0 hf
  have hds : ds'.size = n * z.length := by have := e2.1; simp at this; omega
  have hrun : (Instr.buildSlice t n (ps.map fun (i, x) => (i, act.eval x))).run P w = .ok (.slice (some ⟨w.heap.size, 0, none⟩) n n) (w.alloc (.cells ds' e)) := by
    have e1' : Instr.fill (fun i => some (i * z.length, z.length)) ((Array.range (n * z.length)).map (zv.cells[· % zv.cells.size]!)) (ps.toList.map fun (i, x) => (i, act.eval x)) = some ds' := e1
    have hnot : ¬ 16777216 < n * z.length := by omega
    have hne : ¬ z = [] := by intro e; subst e; simp at h0
    by_cases hn0 : n = 0
    · subst hn0
      simp [Instr.buildSlice, run_underlying hu, sizeOf, typeInfo, hi, hsz, newRow]
      rw [show (Array.map (fun x => zv.cells[x % zv.cells.size]!) (Array.range (0 * z.length))) = Array.map (fun _ => (default : Value)) (Array.range 0) by rw [Nat.zero_mul]; apply Array.ext <;> simp] at e1'
      have e6 : Instr.fill (fun i => some (i * z.length, z.length)) (Array.map (fun _ => (default : Value)) (Array.range 0)) (List.map (fun x => (x.fst, act.eval x.snd)) ps.toList) = some ds' := e1'
      rw [e6]
      simp
    · have hnz : ¬ (n * z.length = 0) := by rw [Nat.mul_eq_zero]; omega
      simp [Instr.buildSlice, run_underlying hu, sizeOf, typeInfo, zeroValue, hi, hsz, hz, hnot, hn0, hne, newRow]
      simp at e1'
      simp [e1']
      intro hh; exact absurd hh hnz
  refine MOk.row h hn (Le.refl w) rfl (C := ds') (t := e) (f := (0, 0)) hflat e2 (fun j x hx => by simpa using hx) (by simp) (.inl rfl) uK_257 (by simp [hrun]; rfl) ?_
  have := VR.sl (ι := ι.upd H.len ⟨w.heap.size, 0, usz (uK P e), ds'.size⟩) (i := H.len) (o := 0) (n := n) (gc := n + 1) (c := n) (Inj.upd_same _ _ _) (Nat.le_refl _) (.inr rfl) (by
    rcases uK_size (P := P) (e := e) (n := i.size) (by simp [szK, hi]) hb with e1 | e1
    · left; simp [e1, usz]
    · right; simp only [e1, hds, hsz]; omega)
  simpa using this
theorem fillL_flat : ∀ (qs : List (Nat × Nat × Value)) (cells cs : List Value), fillL cells qs = some cs → (∀ v ∈ cells, flatV v = true) → (∀ v ∈ cs, flatV v = true) ∧ cs.length = cells.length
  | [], cells, cs, h, hf => by cases h; exact ⟨hf, rfl⟩
  | (o, n, v) :: qs, cells, cs, h, hf => by
    simp only [fillL] at h
    split at h
    · cases h
    · rename_i hc
      simp only [ne_eq, decide_not, gt_iff_lt, Bool.or_eq_true, Bool.not_eq_eq_eq_not, Bool.not_true, decide_eq_false_iff_not, decide_eq_true_eq, List.all_eq_false, not_or, Decidable.not_not, not_exists, not_and, Nat.not_lt] at hc
      obtain ⟨⟨hc1, hc2⟩, hc3⟩ := hc
      obtain ⟨h1, h2⟩ := fillL_flat qs _ cs h (by
        intro u hu
        rcases List.mem_append.1 hu with hu | hu
        · rcases List.mem_append.1 hu with hu | hu
          · exact hf u (List.mem_of_mem_take hu)
          · simpa using hc3 u hu
        · exact hf u (List.mem_of_mem_drop hu))
      refine ⟨h1, ?_⟩
      rw [h2]
      simp only [List.length_append, List.length_take, List.length_drop]
      omega
theorem bytes_ok (h : HR P base lim ι H.t w) (hb : szK P P.rt.byte = some 1) (hn : ι H.len = none) {src dst e : TypeId} (hs : P.underlying src = some .string) (hd : P.underlying dst = some (.slice e)) (he : P.underlying e = some (.int .u8)) (hsz : szK P e = some 1) {s : ByteArray} :
    MOk P base lim ι H w (.slice (some ⟨H.len, 0, none⟩) s.size 0) (some (.cells (s.data.toList.map fun b => .int .u8 b.toNat) (uK P e) true)) (do pure (.value (← convert src dst (.string s)))) := by
  have hrun := run_bytes_of_string (P := P) w src dst e s hs hd he
  have hge := grownCap_ge w s.size 0 e
  have hC : (bytesRow s (grownCap w s.size 0 e)).size = grownCap w s.size 0 e := by
    unfold bytesRow
    rw [Array.size_append, Array.size_map, Array.size_replicate]
    have : s.data.size = s.size := rfl
    omega
  refine MOk.row h hn (Le.drew w) rfl (C := bytesRow s (grownCap w s.size 0 e)) (t := e) (f := ((bytesRow s (grownCap w s.size 0 e)).size, (bytesRow s (grownCap w s.size 0 e)).size + 1)) ?_ (VRs.lits ?_) ?_ ?_ (.inr (Nat.le_refl _)) uK_257 (by simp [hrun]; rfl) ?_
  · intro v hv; obtain ⟨x, _, rfl⟩ := List.mem_map.1 hv; rfl
  · intro v hv; obtain ⟨x, _, rfl⟩ := List.mem_map.1 hv; rfl
  · intro j v hv
    have hj := (List.getElem?_eq_some_iff.1 hv).1
    unfold bytesRow
    rw [Array.getElem?_append_left (by simpa using hj)]
    simpa using hv
  · rw [hC]; simp; exact hge
  · have := VR.sl (ι := ι.upd H.len ⟨w.heap.size, 0, usz (uK P e), (bytesRow s (grownCap w s.size 0 e)).size⟩) (i := H.len) (o := 0) (n := s.size) (gc := 0) (c := grownCap w s.size 0 e) (Inj.upd_same _ _ _) hge (.inl rfl) (by
      rcases uK_size hsz hb with e1 | e1
      · left; simp [e1, usz]
      · right; simp only [e1, hC]; omega)
    simpa using this
theorem runes_ok (h : HR P base lim ι H.t w) (hb : szK P P.rt.byte = some 1) (hn : ι H.len = none) {src dst e : TypeId} (hs : P.underlying src = some .string) (hd : P.underlying dst = some (.slice e)) (he : P.underlying e = some (.int .i32)) (hsz : szK P e = some 1) {s : ByteArray} :
    MOk P base lim ι H w (.slice (some ⟨H.len, 0, none⟩) (Conv.runesFrom s s.size 0 #[]).size 0) (some (.cells (Conv.runesFrom s s.size 0 #[]).toList (uK P e) true)) (do pure (.value (← convert src dst (.string s)))) := by
  have hrunes : ∀ (n i : Nat) (acc : Array Value), (∀ v ∈ acc.toList, litFlat v = true) → ∀ v ∈ (Conv.runesFrom s n i acc).toList, litFlat v = true := by
    intro n
    induction n with
    | zero => intro i acc ha; simpa [Conv.runesFrom] using ha
    | succ n ih =>
      intro i acc ha
      simp only [Conv.runesFrom]
      split
      · refine ih _ _ ?_
        intro v hv
        simp only [Array.toList_push, List.mem_append, List.mem_singleton] at hv
        rcases hv with hv | rfl
        · exact ha v hv
        · rfl
      · exact ha
  have hr := hrunes s.size 0 #[] (by simp)
  generalize hR : Conv.runesFrom s s.size 0 #[] = R at *
  have hge := grownCap_ge w R.size 0 e
  have hC : (R ++ Array.replicate (grownCap w R.size 0 e - R.size) (Value.int .i32 0)).size = grownCap w R.size 0 e := by simp; omega
  have hrun : (convert src dst (.string s)).run P w = .ok (.slice (some ⟨w.heap.size, 0, none⟩) R.size (grownCap w R.size 0 e)) (w.drew.alloc (.cells (R ++ Array.replicate (grownCap w R.size 0 e - R.size) (.int .i32 0)) e)) := by
    simp [convert, run_underlying hs, run_underlying hd, run_underlying he, Conv.stringToRunes, hR, Question.forced, newRow, grownCap]
  refine MOk.row h hn (Le.drew w) rfl (C := R ++ Array.replicate (grownCap w R.size 0 e - R.size) (Value.int .i32 0)) (t := e) (f := (0, 0)) (fun v hv => flatV_lit (hr v hv)) (VRs.lits hr) ?_ ?_ (.inl rfl) uK_257 (by simp [hrun]; rfl) ?_
  · intro j v hv
    have hj := (List.getElem?_eq_some_iff.1 hv).1
    rw [Array.getElem?_append_left (by simpa using hj)]
    simpa using hv
  · rw [hC]; simpa using hge
  · have := VR.sl (ι := ι.upd H.len ⟨w.heap.size, 0, usz (uK P e), (R ++ Array.replicate (grownCap w R.size 0 e - R.size) (Value.int .i32 0)).size⟩) (i := H.len) (o := 0) (n := R.size) (gc := 0) (c := grownCap w R.size 0 e) (Inj.upd_same _ _ _) hge (.inl rfl) (by
      rcases uK_size hsz hb with e1 | e1
      · left; simp [e1, usz]
      · right; simp only [e1, hC]; omega)
    simpa using this
end
end Go.Gh
