/-
  Each operation that looks at its operands, or reads objects, does in the world what it does over the ghost heap.
-/
import Derived.Test.YtfcbdkbdalbjmaaGhB
import Derived.WalkLawsBesides
namespace Go.Gh
set_option linter.unusedVariables false
set_option linter.unusedSimpArgs false
open Go.RowKit

section
variable {P : Program} {base lim : Nat} {ι : Inj} {H : GHeap} {w : World}

theorem cArg_ok {x : Operand} {a : GArg} {fr : Fr} {act : Act} {v : Value} {t : Tr GObj} (hc : cArg P x = some a) (hv : a.ev fr = some v) (hfr : FR ι fr act) (h : HR P base lim ι t w) : VR ι v (act.eval x) := by
  cases x with
  | tmp n =>
    simp only [cArg, Option.some.injEq] at hc
    subst hc
    obtain ⟨v', h1, h2⟩ := hfr.2 n v hv
    simp only [Act.eval, Array.getD_eq_getD_getElem?, h1, Option.getD_some]
    exact h2
  | const u =>
    simp only [cArg] at hc
    split at hc
    · rename_i hl
      cases hc
      cases hv
      exact VR.litOk hl
    · cases hc
  | global g =>
    simp only [cArg] at hc
    split at hc
    · rename_i hg
      cases hc
      cases hv
      obtain ⟨l, h1, h2, h3⟩ := h.glob g hg
      have := VR.ptr (o := 0) h1
      rw [h2, h3] at this
      exact this
    · cases hc
  | func f =>
    simp only [cArg, Option.some.injEq] at hc
    subst hc
    cases hv
    exact .func rfl (by simp) rfl (by simp)

theorem HR.cell (h : HR P base lim ι H.t w) {i : Nat} {l : GLoc} {cs : List Value} (hi : ι i = some l) (hc : H.cs i = some cs) {j : Nat} {v : Value} (hj : cs[j]? = some v) :
    flatV v = true ∧ ∃ v', w.cell? ⟨l.block, l.off + j, none⟩ = some v' ∧ VR ι v v' := by
  unfold GHeap.cs at hc
  split at hc
  · rename_i u own ho
    cases hc
    exact (h.obj i l _ hi ho).2.1 j v hj
  · cases hc
theorem HR.row (h : HR P base lim ι H.t w) {i : Nat} {l : GLoc} {cs : List Value} (hi : ι i = some l) (hc : H.cs i = some cs) (o n : Nat) (hn : o + n ≤ cs.length) :
    ∃ ds : List Value, ds.length = n ∧ VRs ι ((cs.drop o).take n) ds ∧ (∀ j v, ds[j]? = some v → w.cell? ((⟨l.block, l.off + o, none⟩ : Addr).add j) = some v) ∧ ∀ v ∈ ds, v.oneCell' = true := by
  have key : ∀ j, j < n → ∃ v', w.cell? ⟨l.block, l.off + (o + j), none⟩ = some v' ∧ VR ι (cs.getD (o + j) undef) v' ∧ v'.oneCell' = true := by
    intro j hj
    have hlt : o + j < cs.length := by omega
    obtain ⟨hf, v', h1, h2⟩ := h.cell hi hc (List.getElem?_eq_getElem hlt)
    exact ⟨v', h1, by simpa [List.getD, hlt] using h2, (h2.flat hf).2⟩
  refine ⟨(List.range n).map fun j => (w.cell? ⟨l.block, l.off + (o + j), none⟩).getD undef, by simp, ⟨by simp; omega, fun j v hv => ?_⟩, fun j v hv => ?_, fun v hv => ?_⟩
  · rw [List.getElem?_take] at hv
    split at hv
    · rename_i hj
      obtain ⟨v', h1, h2, _⟩ := key j hj
      rw [List.getElem?_drop] at hv
      refine ⟨v', by simp [hj, h1], ?_⟩
      rw [List.getD, hv] at h2
      exact h2
    · cases hv
  · have hj : j < n := by have := (List.getElem?_eq_some_iff.1 hv).1; simpa using this
    obtain ⟨v', h1, _, _⟩ := key j hj
    simp [hj, h1] at hv
    subst hv
    have : (⟨l.block, l.off + o, none⟩ : Addr).add j = ⟨l.block, l.off + (o + j), none⟩ := by unfold Addr.add; split <;> simp_all [Nat.add_assoc]
    rw [this, h1]
  · obtain ⟨j, hj, rfl⟩ := List.mem_map.1 hv
    obtain ⟨v', h1, _, h3⟩ := key j (List.mem_range.1 hj)
    rw [h1]
    exact h3

theorem szK_run {t : TypeId} {n : Nat} (h : szK P t = some n) : (sizeOf t).run P w = .ok n w := by
  unfold szK at h
  cases hi : P.info? t with
  | none => rw [hi] at h; cases h
  | some i => rw [hi] at h; cases h; simp [sizeOf, typeInfo, hi]
theorem ldK_some {t : TypeId} {k : Option Nat} (h : ldK P t = some k) : ∃ d, P.underlying t = some d ∧ (isAgg t).run P w = .ok k.isSome w ∧ ∀ n, k = some n → (sizeOf t).run P w = .ok n w := by
  unfold ldK at h
  cases hd : P.underlying t with
  | none => rw [hd] at h; cases h
  | some d =>
    rw [hd] at h
    refine ⟨d, rfl, ?_, ?_⟩
    · simp only [isAgg, Sem.run_bind, run_underlying hd, Result.andThen_ok]
      cases d <;> simp [aggD] at h <;> first
        | (subst h; rfl)
        | (obtain ⟨n, _, rfl⟩ := h; rfl)
    · intro n hn
      subst hn
      cases d <;> simp [aggD] at h <;> exact szK_run h
theorem run_loadCells_row {a : Addr} {n : Nat} {ds : List Value} (hl : ds.length = n) (hc : ∀ j v, ds[j]? = some v → w.cell? (a.add j) = some v) : (loadCells a n).run P w = .ok ds.toArray w := by
  subst hl; exact run_loadCells_list w a ds hc

theorem gld_ok (h : HR P base lim ι H.t w) {t : TypeId} {k : Option Nat} (hk : ldK P t = some k) {v v' r : Value} (hv : VR ι v v') (hr : gld k H v = some r) :
    ∃ r', (Instr.loadAt t v').run P w = .ok r' w ∧ VR ι r r' := by
  unfold gld at hr
  split at hr
  · rename_i i o
    obtain ⟨l, hl, rfl⟩ := hv.ptr_inv
    obtain ⟨d, hd, hag, hsz⟩ := ldK_some (w := w) hk
    split at hr
    · cases hr
    · rename_i cs hcs
      cases k with
      | none =>
        simp only at hr
        obtain ⟨_, r', h1, h2⟩ := h.cell hl hcs hr
        exact ⟨r', by simp [Instr.loadAt, Instr.sureAddr, loadVar, hag, h1], h2⟩
      | some n =>
        simp only at hr
        split at hr
        · rename_i hn
          cases hr
          obtain ⟨ds, h1, h2, h3, _⟩ := h.row hl hcs o n hn
          refine ⟨.agg ds.toArray, ?_, VR.agg_of h2⟩
          simp [Instr.loadAt, Instr.sureAddr, loadVar, hag, hsz n rfl, run_loadCells_row (P := P) h1 h3]
        · cases hr
  · cases hr

theorem gadd_ok {n : Nat} {v v' r : Value} (hv : VR ι v v') (hr : gadd n v = some r) : ∃ b o, v' = .pointer (some ⟨b, o, none⟩) ∧ VR ι r (.pointer (some ((⟨b, o, none⟩ : Addr).add n))) := by
  unfold gadd at hr
  split at hr
  · rename_i i o
    cases hr
    obtain ⟨l, hl, rfl⟩ := hv.ptr_inv
    refine ⟨_, _, rfl, ?_⟩
    have : (⟨l.block, l.off + o, none⟩ : Addr).add n = ⟨l.block, l.off + (o + n), none⟩ := by unfold Addr.add; split <;> simp_all [Nat.add_assoc]
    rw [this]
    exact .ptr hl
  · cases hr
theorem faK_ok {s : TypeId} {f n : Nat} (hk : faK P s f = some n) {b o : Nat} : (Instr.fieldAt s (.pointer (some ⟨b, o, none⟩)) f).run P w = .ok (.pointer (some ((⟨b, o, none⟩ : Addr).add n))) w := by
  unfold faK at hk
  split at hk
  · rename_i fs hfs
    split at hk
    · rename_i fd hfd
      split at hk
      · rename_i m hm
        split at hk
        · cases hk
        · rename_i hm0
          cases hk
          have := szK_run (w := w) hm
          simp [Instr.fieldAt, run_underlying hfs, hfd, Instr.sureAddr, fieldPlace, this, hm0]
      · cases hk
    · cases hk
  · cases hk

theorem gpart_ok {t : TypeId} {k : Option Nat} (hk : ldK P t = some k) {off : Nat} {cs cs' : Array Value} {r : Value} (hv : VRs ι cs.toList cs'.toList) (hr : gpart k off (.agg cs) = some r) :
    ∃ r', (part t cs' off).run P w = .ok r' w ∧ VR ι r r' := by
  obtain ⟨d, hd, hag, hsz⟩ := ldK_some (w := w) hk
  cases k with
  | none =>
    simp only [gpart] at hr
    obtain ⟨r', h1, h2⟩ := hv.2 off r (by simpa using hr)
    have h1' : cs'[off]? = some r' := by simpa using h1
    exact ⟨r', by simp [part, hag, h1'], h2⟩
  | some n =>
    simp only [gpart, Option.some.injEq] at hr
    subst hr
    refine ⟨.agg (cs'.extract off (off + n)), by simp [part, hag, hsz n rfl], ?_⟩
    have e : ∀ a : Array Value, a.extract off (off + n) = ((a.toList.drop off).take n).toArray := by
      intro a
      apply Array.ext'
      simp [Array.toList_extract, List.extract, Nat.add_sub_cancel_left]
    rw [e, e]
    exact VR.agg_of ((hv.drop off).take n)
theorem gia_ok {len : Option Nat} {size : Nat} {x x' i i' r : Value} (hx : VR ι x x') (hi : VR ι i i') (hr : gia len size x i = some r) {t : TypeId} (hk : iaK P t = some (len, size)) :
    ∃ r', (Instr.indexAt t x' i').run P w = .ok r' w ∧ VR ι r r' := by
  unfold gia at hr
  split at hr
  · rename_i k j
    obtain rfl := hi.int_inv
    have hadd : ∀ (b o n : Nat), (⟨b, o, none⟩ : Addr).add n = ⟨b, o + n, none⟩ := fun b o n => by unfold Addr.add; split <;> simp_all
    split at hr
    · rename_i b o n gc
      split at hr
      · rename_i hj
        cases hr
        unfold iaK at hk
        split at hk
        · rename_i e he
          simp only [Option.map_eq_some_iff, Prod.mk.injEq, true_and] at hk
          obtain ⟨m, hm, rfl⟩ := hk
          have hsz := szK_run (w := w) hm
          cases hx with
          | lit h => simp [litFlat] at h
          | slV => omega
          | sl hl hn hg hb =>
            rename_i c l
            refine ⟨.pointer (some ⟨l.block, l.off + (o + j.toNat * m), none⟩), ?_, .ptr hl⟩
            simp [Instr.indexAt, asIntOf, run_underlying he, hj.1, hj.2, hsz, hadd, Nat.add_assoc]
        · simp at hk
        · cases hk
      · cases hr
    · rename_i n b o
      split at hr
      · rename_i hj
        cases hr
        unfold iaK at hk
        split at hk
        · simp at hk
        · rename_i len' e he
          simp only [Option.map_eq_some_iff, Prod.mk.injEq, Option.some.injEq] at hk
          obtain ⟨m, hm, rfl, rfl⟩ := hk
          have hsz := szK_run (w := w) hm
          obtain ⟨l, hl, rfl⟩ := hx.ptr_inv
          refine ⟨.pointer (some ⟨l.block, l.off + (o + j.toNat * m), none⟩), ?_, .ptr hl⟩
          simp [Instr.indexAt, asIntOf, run_underlying he, hj.1, hj.2, hsz, hadd, Nat.add_assoc, Instr.sureAddr]
        · cases hk
      · cases hr
    · cases hr
  · cases hr
theorem gix_ok {q : Option (Nat × Nat × Option Nat)} {x x' i i' r : Value} (hx : VR ι x x') (hi : VR ι i i') (hr : gix q x i = some r) {t : TypeId} (hk : ixK P t = some q) :
    ∃ r', (Instr.index t x' i').run P w = .ok r' w ∧ VR ι r r' := by
  unfold gix at hr
  split at hr
  · rename_i k j
    obtain rfl := hi.int_inv
    split at hr
    · rename_i s
      obtain rfl := hx.str_inv
      split at hr
      · rename_i hj
        simp only [Option.map_eq_some_iff] at hr
        obtain ⟨b, hb, rfl⟩ := hr
        unfold ixK at hk
        split at hk
        · rename_i hs
          exact ⟨_, by simp [Instr.index, asIntOf, run_underlying hs, hj, hb], .lit rfl⟩
        · split at hk <;> cases hk
        · cases hk
      · cases hr
    · rename_i _ len size k'
      split at hr
      · rename_i hj
        unfold ixK at hk
        split at hk
        · cases hk
        · rename_i len' e he
          split at hk
          · rename_i m k2 hm hk2
            cases hk
            have hsz := szK_run (w := w) hm
            cases x with
            | agg cs =>
              obtain ⟨ds, rfl, hds⟩ := hx.agg_inv
              obtain ⟨r', h1, h2⟩ := gpart_ok (w := w) hk2 hds hr
              exact ⟨r', by simp [Instr.index, asIntOf, run_underlying he, hj.1, hj.2, hsz, h1], h2⟩
            | _ => simp [gpart] at hr
          · cases hk
        · cases hk
      · cases hr
    · cases hr
  · cases hr
end
end Go.Gh
