/-
  Every operation that leaves the objects as they are, but appends.
-/
import Derived.Test.YtfcbdkbdalbjmaaGhG
namespace Go.Gh
set_option linter.unusedVariables false
set_option linter.unusedSimpArgs false
open Go.RowKit

/-- what such an operation brings about -/
def MOk (P : Program) (base lim : Nat) (ι : Inj) (H : GHeap) (w : World) (v : Value) (new : Option GObj) (s : Sem Next) : Prop :=
  ∃ v' ι' w', s.run P w = .ok (.value v') w' ∧ Le w w' ∧ VR ι' v v' ∧ HR P base lim ι' (H.add new).t w' ∧ (new = none → ι' = ι) ∧ ∀ o, new = some o → ∃ L, ι' = ι.upd H.len L ∧ w.heap.size ≤ L.block
section
variable {P : Program} {base lim : Nat} {ι : Inj} {H : GHeap} {w : World} {fr : Fr} {act : Act}
theorem MOk.same (h : HR P base lim ι H.t w) {v v' : Value} {s : Sem Next} (hr : s.run P w = .ok (.value v') w) (hv : VR ι v v') : MOk P base lim ι H w v none s :=
  ⟨v', ι, w, hr, Le.refl w, hv, h, fun _ => rfl, by simp⟩
theorem MOk.row (h : HR P base lim ι H.t w) (hn : ι H.len = none) {cs : List Value} {u : Nat} {C : Array Value} {t : TypeId} {f : Nat × Nat} {w1 : World} (hw : Le w w1) (hs : w1.heap.size = w.heap.size)
    (hf : ∀ v ∈ cs, flatV v = true) {ds : List Value} (hd : VRs ι cs ds) (hC : ∀ (j : Nat) v, ds[j]? = some v → C[j]? = some v) (hCl : ds.length ≤ C.size) (hfr : f.1 = f.2 ∨ C.size ≤ f.1) (hu : u = 257 → t = P.rt.byte)
    {v v' : Value} {s : Sem Next} (hr : s.run P w = .ok (.value v') (w1.alloc (.cells C t f))) (hv : VR (ι.upd H.len ⟨w.heap.size, 0, usz u, C.size⟩) v v') : MOk P base lim ι H w v (some (.cells cs u true)) s := by
  obtain ⟨h1, h2⟩ := alloc_ok h hn hw hs hf hd hC hCl hfr hu
  exact ⟨v', _, _, hr, h1, hv, h2, by simp, fun o _ => ⟨_, rfl, Nat.le_refl _⟩⟩

theorem newVar_run (e : TypeId) (v : Value) : (newVar e v).run P w = .ok ⟨w.heap.size, 0, none⟩ (w.alloc (.cells v.cells e)) := by
  simp [newVar, newRow]
theorem uK_257 {e : TypeId} (h : uK P e = 257) : e = P.rt.byte := by
  unfold uK at h
  split at h
  · assumption
  · exfalso
    cases hs : szK P e with
    | none => rw [hs] at h; simp at h
    | some n => rw [hs] at h; simp at h; split at h <;> omega
theorem uK_size {e : TypeId} {n : Nat} (h : szK P e = some n) (hb : szK P P.rt.byte = some 1) : uK P e = 0 ∨ usz (uK P e) = n := by
  unfold uK
  split
  · rename_i he; subst he; rw [hb] at h; cases h; exact .inr rfl
  · rw [h]
    simp only [Option.map_some, Option.getD_some]
    split
    · exact .inl rfl
    · rename_i hn; exact .inr (by simp [usz, hn])
theorem mkK_some {t : TypeId} {z : List Value} {b u : Nat} (h : mkK P t = some (z, b, u)) : ∃ e i zv, P.underlying t = some (.slice e) ∧ P.info? e = some i ∧ i.zero = some zv ∧ i.bytes = b ∧ i.size = z.length ∧ zv.cells.toList = z ∧ z.length ≠ 0 ∧ (∀ v ∈ z, litFlat v = true) ∧ u = uK P e := by
  unfold mkK at h
  split at h
  · rename_i e hu
    split at h
    · rename_i zv b' s hz hb hs
      split at h
      · rename_i hc
        cases h
        obtain ⟨i, hi, hiz, hl, _⟩ := zeroK_some hz
        unfold byK at hb
        unfold szK at hs
        rw [hi] at hb hs
        cases hb
        cases hs
        exact ⟨e, i, zv, hu, hi, hiz, rfl, by simp [hc.1], rfl, by simp [hc.1]; exact hc.2, hl, rfl⟩
      · cases h
    · cases h
  · cases h
theorem zeros_len (z : List Value) : ∀ n, (zeros z n).length = n * z.length
  | 0 => by simp [zeros]
  | n + 1 => by rw [zeros, List.length_append, zeros_len z n, Nat.add_mul]; omega
theorem zeros_mem {z : List Value} {v : Value} : ∀ {n}, v ∈ zeros z n → v ∈ z
  | 0, h => by simp [zeros] at h
  | n + 1, h => by rw [zeros, List.mem_append] at h; exact h.elim id zeros_mem
theorem zeros_get {z : List Value} : ∀ (n j : Nat), j < n * z.length → (zeros z n)[j]? = z[j % z.length]?
  | 0, j, h => by simp at h
  | n + 1, j, h => by
    have hz : 0 < z.length := by rcases Nat.eq_zero_or_pos z.length with e | e; · rw [e] at h; simp at h
                                 · exact e
    rw [zeros, List.getElem?_append]
    split
    · rename_i hj; rw [Nat.mod_eq_of_lt hj]
    · rename_i hj
      rw [zeros_get n (j - z.length) (by rw [Nat.add_mul] at h; omega), ← Nat.mod_eq_sub_mod (by omega)]
/-- the model's row of zeros -/
theorem madeZeros (zv : Value) (z : List Value) (hz : zv.cells.toList = z) (n : Nat) (h0 : z.length ≠ 0) : ((Array.range (n * z.length)).map (zv.cells[· % zv.cells.size]!)).toList = zeros z n := by
  have hs : zv.cells.size = z.length := by rw [← hz]; simp
  apply List.ext_getElem?
  intro j
  by_cases hj : j < n * z.length
  · rw [zeros_get n j hj, Array.getElem?_toList, Array.getElem?_map, Array.getElem?_eq_getElem (by rw [Array.size_range]; exact hj), Array.getElem_range, Option.map_some]
    have hm : j % zv.cells.size < zv.cells.size := Nat.mod_lt _ (by omega)
    rw [getElem!_pos zv.cells _ hm, ← hs, ← hz, Array.getElem?_toList, Array.getElem?_eq_getElem hm]
  · rw [List.getElem?_eq_none (by simp; omega), List.getElem?_eq_none (by rw [zeros_len]; omega)]
theorem gmake_ok (h : HR P base lim ι H.t w) (hb : szK P P.rt.byte = some 1) {t : TypeId} {z : List Value} {b u : Nat} (hk : mkK P t = some (z, b, u)) {l c l' c' v : Value} {new : Option GObj} (hl : VR ι l l') (hc : VR ι c c') (hr : gmake z b u H l c = some (v, new)) (hn : ι H.len = none) :
    MOk P base lim ι H w v new (do pure (.value (← Instr.makeSlice t l' c'))) := by
  obtain ⟨e, i, zv, hu, hi, hz, rfl, hsz, hzl, h0, hlit, rfl⟩ := mkK_some hk
  unfold gmake at hr
  split at hr
  · rename_i kl l kc c
    obtain rfl := hl.int_inv; obtain rfl := hc.int_inv
    split at hr
    · rename_i hcond
      obtain ⟨c1, c2, c3, c4⟩ := hcond
      cases hr
      obtain ⟨cn, rfl⟩ := Int.eq_ofNat_of_zero_le (show 0 ≤ c by omega)
      obtain ⟨ln, rfl⟩ := Int.eq_ofNat_of_zero_le c1
      have hwc : IntKind.i64.wrap (cn : Int) = cn := IntWalk.i64_in _ (by omega)
      have hwl : IntKind.i64.wrap (ln : Int) = ln := IntWalk.i64_in _ (by omega)
      have hmz := madeZeros zv z hzl cn h0
      have hrun : (Instr.makeSlice t (.int kl (ln : Int)) (.int kc (cn : Int))).run P w = .ok (.slice (some ⟨w.heap.size, 0, none⟩) ln cn) (w.alloc (.cells ((Array.range (cn * z.length)).map (zv.cells[· % zv.cells.size]!)) e)) := by
        have t1 : ¬ ((cn : Int) < 0) := by omega
        have t2 : ¬ (281474976710656 < (i.bytes : Int) * (cn : Int)) := by rw [Int.mul_comm]; omega
        have t3 : ¬ ((ln : Int) < 0) := by omega
        have t4 : ¬ ((cn : Int) < (ln : Int)) := by omega
        by_cases hz0 : cn = 0
        · subst hz0
          obtain rfl : ln = 0 := by omega
          have hw0 : IntKind.i64.wrap 0 = 0 := by decide
          simp [hw0, Instr.makeSlice, run_underlying hu, asInt, asIntOf, typeInfo, hi, hwl, hwc, sizeOf, hsz, newRow]
          congr 2; simp
        · have : ¬ (cn = 0 ∨ z.length = 0) := by omega
          have hne : ¬ z = [] := by intro e; subst e; simp at h0
          simp [Instr.makeSlice, run_underlying hu, asInt, asIntOf, typeInfo, hi, hwl, hwc, sizeOf, hsz, newRow, zeroValue, hz, hz0, hne, t2]
          have t5 : ¬ cn * z.length = 0 := by rw [Nat.mul_eq_zero]; omega
          rw [if_neg (by omega), if_neg t5]
      have hlen : (zeros z cn).length = cn * z.length := zeros_len z cn
      refine MOk.row h hn (Le.refl w) rfl (C := (Array.range (cn * z.length)).map (zv.cells[· % zv.cells.size]!)) (t := e) (f := (0, 0)) (fun v hv => flatV_lit (hlit v (zeros_mem hv))) (VRs.lits fun v hv => hlit v (zeros_mem hv)) ?_ (by simp [hlen]) (.inl rfl) uK_257 (by simp [hrun]; rfl) ?_
      · intro j v hv
        simp only [Int.toNat_natCast] at hv
        rw [← hmz, Array.getElem?_toList] at hv
        exact hv
      · have hsize : ((Array.range (cn * z.length)).map (zv.cells[· % zv.cells.size]!)).size = cn * z.length := by simp
        have := VR.sl (ι := ι.upd H.len ⟨w.heap.size, 0, usz (uK P e), ((Array.range (cn * z.length)).map (zv.cells[· % zv.cells.size]!)).size⟩) (i := H.len) (o := 0) (n := ln) (gc := cn + 1) (c := cn) (Inj.upd_same _ _ _) (by omega) (.inr rfl) (by
          rcases uK_size (P := P) (e := e) (n := i.size) (by simp [szK, hi]) hb with e1 | e1
          · left; simp [e1, usz]
          · right; simp only [e1, hsize, hsz]; omega)
        simpa using this
    · cases hr
  · cases hr
end
end Go.Gh
