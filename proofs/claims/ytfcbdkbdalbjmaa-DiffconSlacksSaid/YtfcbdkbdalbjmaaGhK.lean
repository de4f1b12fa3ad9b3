/-
  Operations that write: appends, copies, an iterator's step.
-/
import Derived.Test.YtfcbdkbdalbjmaaGhJ
import Derived.Lib.OthersKept
namespace Go.Gh
set_option linter.unusedVariables false
set_option linter.unusedSimpArgs false
open Go.RowKit

/-- what an operation, or a call, brings about over the ghost heap and in the world -/
def After (P : Program) (base : Nat) (ι : Inj) (H : GHeap) (w : World) (v : Value) (H' : GHeap) (v' : Value) (w' : World) : Prop :=
  ∃ ι', VR ι' v v' ∧ HR P base H.lim ι' H'.t w' ∧ Below base w w' ∧ ι.le ι' ∧ ∀ i l, ι' i = some l → ι i = some l ∨ (H.len ≤ i ∧ i < H'.len ∧ base ≤ l.block)
def WOk (P : Program) (base : Nat) (ι : Inj) (H : GHeap) (w : World) (v : Value) (H' : GHeap) (s : Sem Next) : Prop :=
  ∃ v' w', (s.run P w = .ok (.value v') w' ∨ (s.run P w = .ok .skip w' ∧ v' = undef)) ∧ After P base ι H w v H' v' w'
section
variable {P : Program} {base : Nat} {ι : Inj} {H : GHeap} {w : World}
theorem mok_w {v : Value} {new : Option GObj} {s : Sem Next} (h : HR P base H.lim ι H.t w) (hm : MOk P base H.lim ι H w v new s) (hn : new.isSome = true → ι H.len = none) : WOk P base ι H w v (H.add new) s := by
  obtain ⟨v', ι', w', h1, h2, h3, h4, h5, h6⟩ := hm
  refine ⟨v', w', .inl h1, ι', h3, h4, h2.mono h.low, ?_, ?_⟩
  · cases new with
    | none => rw [h5 rfl]; exact Inj.le.refl _
    | some o => obtain ⟨L, rfl, _⟩ := h6 o rfl; exact Inj.le_upd L (hn rfl)
  · intro i l e
    cases new with
    | none => rw [h5 rfl] at e; exact .inl e
    | some o =>
      obtain ⟨L, rfl, hL⟩ := h6 o rfl
      by_cases hi : i = H.len
      · subst hi
        rw [Inj.upd_same] at e
        cases e
        exact .inr ⟨Nat.le_refl _, by simp [GHeap.add], Nat.le_trans h.low hL⟩
      · rw [Inj.upd_ne _ _ hi] at e; exact .inl e

theorem gapp_ok (h : HR P base H.lim ι H.t w) (hb : szK P P.rt.byte = some 1) {sT xT ty : TypeId} {size bytes u : Nat} (T : AppT P sT xT size bytes u) {s s' x x' v : Value} {H' : GHeap} (hs : VR ι s s') (hx : VR ι x x') (hr : gapp size bytes u H s x = some (v, H')) (hn : H.len < H'.len → ι H.len = none) :
    WOk P base ι H w v H' (do pure (.value (← Builtin.append_ #[sT, xT] ty #[s', x']))) := by
  by_cases hM : ∃ new, gappM size bytes u H s x = some (v, new) ∧ H' = H.add new
  · obtain ⟨new, hM, rfl⟩ := hM
    have hn' : new.isSome = true → ι H.len = none := fun hs => hn (by cases new <;> simp [GHeap.add] at hs ⊢)
    exact mok_w h (gappM_ok h hb T hs hx hM hn') hn'
  · have hr0 := hr
    simp only [gapp, Option.bind_eq_some_iff] at hr
    obtain ⟨m, hm, news, hnews, hr⟩ := hr
    obtain ⟨hlen, ds, hf1, hf2, hd1, hd2⟩ := src_ok h T hx hm hnews
    split at hr
    · rename_i b n gc
      split at hr
      · rename_i hm0
        cases hr
        exact absurd ⟨none, by subst hm0; simp [gappM, hm, hnews], rfl⟩ hM
      · rename_i hm0
        split at hr
        · rename_i hc
          obtain ⟨hc1, hc2, hc3, hc4⟩ := hc
          split at hr
          · split at hr
            · rename_i hn0
              cases hr
              exact absurd ⟨some (.cells news u true), by subst hn0; simp [gappM, hm, hnews, hm0, hc3, hc4]; exact ⟨by simpa using hc1, by simpa using hc2⟩, rfl⟩ hM
            · cases hr
          · rename_i i o
            split at hr
            · rename_i hgc
              subst hgc
              split at hr
              · rename_i cs uu hmine
                split at hr
                · rename_i hcc
                  obtain ⟨rfl, hu0, hcc⟩ := hcc
                  cases hr
                  have hnew : ι H.len = none := hn (by simp [GHeap.add, GHeap.put])
                  obtain ⟨hlim, hobj⟩ := mine_some hmine
                  have hk := h.kill hobj
                  have hput : (H.put i (.dead uu)).t = H.t.set i (.dead (GObj.cells cs uu true).unit) := rfl
                  have husz : usz uu = size := (T_size hb T).resolve_left hu0
                  cases hs with
                  | lit hl => simp [litFlat] at hl
                  | slV hg =>
                    rename_i y
                    have hk' : HR P base H.lim ι (H.put i (.dead uu)).t w := hk
                    have := grow_ok (H := H.put i (.dead uu)) (ty := ty) (x' := x') (b' := some y) (n := 0) (c := 0) (os := []) (olds := []) hk' hb hnew T hlen (by simp [Builtin.firstCells, loadCells, loadCellsFrom]) hf2 .nil hd1 (by simp) hd2 (by simp) hc4 (by omega) hc2 hc1 hc3
                    have h2 := mok_w (H := H.put i (.dead uu)) hk' this (fun _ => hnew)
                    have e0 : (cs.drop o).take (0 * size) = [] := by simp
                    rw [e0]
                    exact h2
                  | sl hl hnc hg hbd =>
                    rename_i c l
                    have hrow : ∃ olds, (Builtin.firstCells size n (.slice (some ⟨l.block, l.off + o, none⟩) n c)).run P w.drew = .ok olds.toArray w.drew ∧ VRs ι ((cs.drop o).take (n * size)) olds ∧ (∀ v ∈ (cs.drop o).take (n * size), flatV v = true) ∧
                        (∀ (j : Nat) v, olds[j]? = some v → w.cell? ⟨l.block, l.off + o + j, none⟩ = some v) := by
                      have hcs : H.cs i = some cs := by simp [GHeap.cs, GHeap.obj, hobj]
                      obtain ⟨olds, g1, g2, g3, g4⟩ := (h.le (Le.drew w)).row hl hcs o (n * size) hcc
                      refine ⟨olds, by simp only [Builtin.firstCells]; exact run_loadCells_row g1 g3, g2, fun v hv => ?_, fun j v hv => ?_⟩
                      · obtain ⟨j, hj⟩ := List.getElem?_of_mem (List.mem_of_mem_drop (List.mem_of_mem_take hv))
                        exact (h.cell hl hcs hj).1
                      · have := g3 j v hv
                        rw [add_addr] at this
                        exact this
                    obtain ⟨olds, ho1, ho2, ho3, ho4⟩ := hrow
                    have hol : ((cs.drop o).take (n * size)).length = n * size := by simp; omega
                    by_cases hroom : n + m ≤ c
                    · -- in place
                      have hobjR := h.obj i l _ hl hobj
                      obtain ⟨hun, hcells, hown⟩ := hobjR
                      obtain ⟨hbl, hsz, C, t, f, hheap, hC, hfr, hbyte⟩ := hown rfl hlim
                      have hbd' : l.off + o + c * size ≤ l.size := by
                        rw [hun, husz] at hbd
                        rcases hbd with hbd | hbd
                        · exact absurd hbd hc3
                        · exact hbd
                      have hmul : n * size + m * size ≤ c * size := by rw [← Nat.add_mul]; exact Nat.mul_le_mul_right _ hroom
                      have hdl : ds.length = m * size := by have := hd1.1; omega
                      obtain ⟨r1, r2, r3⟩ := raw_store (P := P) (o := l.off + o + n * size) (vs := ds) hheap hfr (by omega) (hd1.flat hd2)
                      obtain ⟨g1, g2, g3, g4, g5, g6⟩ := setCells_heap l.block ds (l.off + o + n * size) w C t f hheap
                      have hrun := room_run (ty := ty) T (b := ⟨l.block, l.off + o, none⟩) (n := n) (c := c) hlen hf1 (by rw [add_addr]; exact r1) hroom
                      refine ⟨.slice (some ⟨l.block, l.off + o, none⟩) (n + m) c, _, .inl (by simp [hrun]), ι.upd H.len ⟨l.block, l.off + o, usz uu, l.size⟩, ?_, ?_, ⟨g4, g5, g6, by omega, fun k hk => g3 k (by omega)⟩, Inj.le_upd _ hnew, ?_⟩
                      · have := VR.sl (ι := ι.upd H.len ⟨l.block, l.off + o, usz uu, l.size⟩) (i := H.len) (o := 0) (n := n + m) (gc := 0) (c := c) (Inj.upd_same _ _ _) hroom (.inl rfl) (.inr (by simp only [husz]; omega))
                        simpa using this
                      · refine hk.new hnew ?_ (by omega) (fun k _ hk => g3 k hk) (by have := h.blk i l hl; simp; omega) ?_
                        · intro j l' o' e1 e2 e3
                          have hji : j ≠ i := by rintro rfl; rw [Tr.get_set_same] at e2; cases e2; simp [GObj.live] at e3
                          rw [Tr.get_set_ne _ _ (Ne.symm hji)] at e2
                          exact h.sep i l _ j l' o' hl hobj e1 e2 (Ne.symm hji) hlim rfl e3
                        · refine ⟨rfl, fun j v hv => ?_, fun _ _ => ⟨hbl, ?_, setA C (l.off + o + n * size) ds, t, f, g1, by rw [setA_size]; exact hC, by rw [setA_size]; exact hfr, hbyte⟩⟩
                          · rw [List.getElem?_append] at hv
                            split at hv
                            · rename_i hj
                              obtain ⟨v', q1, q2⟩ := ho2.2 j v hv
                              refine ⟨ho3 v (List.mem_of_getElem? hv), v', ?_, q2.mono (Inj.le_upd _ hnew)⟩
                              rw [hol] at hj
                              show (w.setCells l.block (l.off + o + n * size) ds).cell? ⟨l.block, l.off + o + j, none⟩ = some v'
                              rw [r3 _ (.inl (by omega))]
                              exact ho4 j v' q1
                            · rename_i hj
                              rw [hol] at hj hv
                              obtain ⟨v', q1, q2⟩ := hd1.2 _ v hv
                              refine ⟨hd2 v (List.mem_of_getElem? hv), v', ?_, q2.mono (Inj.le_upd _ hnew)⟩
                              have := r2 _ v' q1
                              show (w.setCells l.block (l.off + o + n * size) ds).cell? ⟨l.block, l.off + o + j, none⟩ = some v'
                              rw [show l.off + o + j = l.off + o + n * size + (j - n * size) by omega]
                              exact this
                          · simp only [List.length_append, hol, hc4]; omega
                      · intro j l' e
                        by_cases hj : j = H.len
                        · subst hj
                          rw [Inj.upd_same] at e
                          cases e
                          exact .inr ⟨Nat.le_refl _, by simp [GHeap.add, GHeap.put], hbl⟩
                        · rw [Inj.upd_ne _ _ hj] at e; exact .inl e
                    · have hk' : HR P base H.lim ι (H.put i (.dead uu)).t w := hk
                      have := grow_ok (H := H.put i (.dead uu)) (ty := ty) (x' := x') (b' := some ⟨l.block, l.off + o, none⟩) (n := n) (c := c) hk' hb hnew T hlen ho1 hf2 ho2 hd1 ho3 hd2 hol hc4 (by omega) hc2 hc1 hc3
                      exact mok_w (H := H.put i (.dead uu)) hk' this (fun _ => hnew)
                · cases hr
              · cases hr
            · rename_i hgc
              split at hr
              · rename_i hgm
                simp only [Option.bind_eq_some_iff] at hr
                obtain ⟨olds, ho, hr⟩ := hr
                split at hr
                · rename_i hol
                  cases hr
                  exact absurd ⟨some (.cells (olds ++ news) u true), by simp [gappM, hm, hnews, hm0, hc1, hc2, hc3, hc4, hgc, hgm, ho, hol], rfl⟩ hM
                · cases hr
              · rename_i hgm
                split at hr
                · rename_i cs uu hmine
                  split at hr
                  · rename_i hcc
                    cases hr
                    have hdl : ds.length = news.length := hd1.1.symm
                    have hmul : (n + m) * size = n * size + m * size := Nat.add_mul _ _ _
                    cases hs with
                    | lit hl => simp [litFlat] at hl
                    | slV hg => omega
                    | sl hl hnc hg hbd =>
                      rename_i c l
                      obtain ⟨w', r1, r2, r3, r4, r5⟩ := store_ok h hl hmine (o := o + n * size) hd1 hd2 (by omega)
                      have hrun := room_run (ty := ty) T (b := ⟨l.block, l.off + o, none⟩) (n := n) (c := c) hlen hf1 (by rw [add_addr, Nat.add_assoc]; exact r1) (by omega)
                      rw [show o + n * size + news.length = o + (n + m) * size by omega] at r2
                      refine ⟨.slice (some ⟨l.block, l.off + o, none⟩) (n + m) c, w', .inl (by simp [hrun]), ι, .sl hl (by omega) hg hbd, r2, r3, Inj.le.refl _, fun j l' e => .inl e⟩
                  · cases hr
                · cases hr
          · cases hr
        · cases hr
    · cases hr

theorem gnext_ok (h : HR P base H.lim ι H.t w) {ty : TypeId} {x x' v : Value} {H' : GHeap} (hx : VR ι x x') (hr : gnext H x = some (v, H')) : WOk P base ι H w v H' (do pure (.value (← Instr.next x' true ty))) := by
  unfold gnext at hr
  split at hr
  · rename_i i
    split at hr
    · rename_i hlim
      split at hr
      · rename_i s pos hobj
        have hobj : H.t.get i = some (.iter s pos) := hobj
        obtain ⟨l, hl, rfl⟩ := hx.ptr_inv
        have hR := h.obj i l _ hl hobj
        obtain ⟨hu, ho, hheap, hb⟩ := hR
        rw [ho]
        split at hr
        · rename_i hp
          cases hr
          have hrun := Lib.run_next_any_at (P := P) w l.block s pos ty hheap hp
          refine ⟨_, _, .inl (by simp [hrun]; exact ⟨rfl, rfl⟩), ι, ?_, ?_, ?_, Inj.le.refl _, fun j l' e => .inl e⟩
          · refine .tup (by simp) ?_
            intro j h1 h2
            have : j = 0 ∨ j = 1 ∨ j = 2 := by simp at h1; omega
            rcases this with rfl | rfl | rfl <;> exact .lit rfl
          · refine h.turn hl hobj hlim rfl (by simp [World.iterAt]) (fun k hk => ?_) ⟨hu, ho, ?_, hb⟩
            · simp only [World.iterAt]; rw [Array.getElem?_setIfInBounds_ne (Ne.symm hk)]
            · simp only [World.iterAt]; rw [Array.getElem?_setIfInBounds_self_of_lt (h.blk i l hl)]
          · exact ⟨rfl, rfl, rfl, by simp [World.iterAt], fun k hk => by simp only [World.iterAt]; rw [Array.getElem?_setIfInBounds_ne (by have := hb hlim; omega)]⟩
        · rename_i hp
          cases hr
          refine ⟨.tuple #[.bool false], w, .inl ?_, ι, .tup rfl ?_, h, Below.refl _ _, Inj.le.refl _, fun j l' e => .inl e⟩
          · simp only [Instr.next, getObj, Sem.run_bind, Sem.run, hheap, Result.andThen_ok, Nat.zero_add]
            simp [hp, Sem.run, getObj, hheap]
          · intro j h1 h2
            obtain rfl : j = 0 := by simp at h1; omega
            exact .lit rfl
      · cases hr
    · cases hr
  · cases hr
theorem gcopy_ok (h : HR P base H.lim ι H.t w) {dT xT ty e : TypeId} {size : Nat} (hu : P.underlying dT = some (.slice e)) (hz : szK P e = some size) (hs0 : size ≠ 0) {d d' x x' v : Value} {H' : GHeap} (hd : VR ι d d') (hx : VR ι x x') (hr : gcopy size H d x = some (v, H')) :
    WOk P base ι H w v H' (do pure (.value (← Builtin.copy_ #[dT, xT] ty #[d', x']))) := by
  simp only [gcopy, Option.bind_eq_some_iff] at hr
  obtain ⟨m, hm, hr⟩ := hr
  split at hr
  · rename_i b n gc
    simp only [Option.bind_eq_some_iff] at hr
    obtain ⟨news, hnews, hr⟩ := hr
    obtain ⟨ds, hf1, hd1, hd2, _⟩ := gcells_ok h hx hnews (by rintro a k c rfl; cases hm; exact Nat.min_le_left _ _) (by rintro q rfl; cases hm; exact Nat.min_le_left _ _)
    have hlen : (Builtin.lenOf x').run P w = .ok m w := by
      cases x with
      | string s => obtain rfl := hx.str_inv; cases hm; simp [Builtin.lenOf]
      | slice a n c =>
        cases hm
        cases a with
        | none => obtain ⟨rfl, rfl, rfl⟩ := hx.slN_inv; simp [Builtin.lenOf]
        | some a => obtain ⟨b', c', rfl⟩ := hx.slS_inv; simp [Builtin.lenOf]
      | _ => simp [gcount] at hm
    have hmin : Nat.min m n = min m n := rfl
    have hszr := szK_run (w := w) hz
    split at hr
    · rename_i h0
      cases hr
      have hds : ds = [] := by
        have : news = [] := by
          unfold gcells at hnews
          cases x with
          | string q =>
            simp at hnews
            have : min m n = 0 := (Nat.mul_eq_zero.1 h0).resolve_right hs0
            rw [this] at hnews
            simpa using hnews.symm
          | slice a n' c =>
            cases a with
            | none => simpa using hnews.symm
            | some a =>
              obtain ⟨bb, oo, sp⟩ := a
              cases sp <;> simp [h0] at hnews
              exact hnews
          | _ => simp [gcount] at hm
        subst this
        exact hd1.nil_inv
      subst hds
      have : ∃ b' c', d' = .slice b' n c' := by
        cases b with
        | none => obtain ⟨rfl, rfl, rfl⟩ := hd.slN_inv; exact ⟨_, _, rfl⟩
        | some b => obtain ⟨b', c', rfl⟩ := hd.slS_inv; exact ⟨_, _, rfl⟩
      obtain ⟨b', c', rfl⟩ := this
      refine ⟨.int .i64 ((min m n : Nat) : Int), w, .inl ?_, ι, .lit rfl, h, Below.refl _ _, Inj.le.refl _, fun j l' e => .inl e⟩
      cases b' <;> simp [Builtin.copy_, run_underlying hu, hlen, hmin, hszr, hf1, storeCells, goInt]
    · rename_i h0
      split at hr
      · rename_i i o
        split at hr
        · rename_i cs u hmine
          split at hr
          · rename_i hc
            cases hr
            cases hd with
            | lit hl => simp [litFlat] at hl
            | slV hg => simp at h0
            | sl hl hnc hg hbd =>
              rename_i c l
              obtain ⟨w', r1, r2, r3, r4, r5⟩ := store_ok h hl hmine (o := o) hd1 hd2 hc.1
              refine ⟨.int .i64 ((min m n : Nat) : Int), w', .inl ?_, ι, .lit rfl, r2, r3, Inj.le.refl _, fun j l' e => .inl e⟩
              simp [Builtin.copy_, run_underlying hu, hlen, hmin, hszr, hf1, r1, goInt]
          · cases hr
        · cases hr
      · cases hr
  · cases hr
end
end Go.Gh
