/-
  Appends.
-/
import Derived.Test.YtfcbdkbdalbjmaaGhI
namespace Go.Gh
set_option linter.unusedVariables false
set_option linter.unusedSimpArgs false
open Go.RowKit

section
variable {P : Program} {base lim : Nat} {ι : Inj} {H : GHeap} {w : World}

/-- what is known of an append's types -/
structure AppT (P : Program) (sT xT : TypeId) (size bytes u : Nat) where
  e : TypeId
  i : TypeInfo
  z : Value
  d : TypeDesc
  hu : P.underlying sT = some (.slice e)
  hi : P.info? e = some i
  hz : i.zero = some z
  hsz : i.size = size
  hby : i.bytes = bytes
  hzs : z.cells.size = size
  hx : P.underlying xT = some d
  hd : (∃ e', d = .slice e') ∨ (d = .string ∧ size = 1)
  hu0 : u = uK P e

theorem grow_run {sT xT ty : TypeId} {size bytes u : Nat} (T : AppT P sT xT size bytes u) {b' : Option Addr} {n c m : Nat} {x' : Value} {olds news : List Value} (hlen : (Builtin.lenOf x').run P w = .ok m w)
    (h1 : (Builtin.firstCells size n (.slice b' n c)).run P w.drew = .ok olds.toArray w.drew) (h2 : (Builtin.firstCells size m x').run P w.drew = .ok news.toArray w.drew)
    (hgt : c < n + m) (h63 : n + m ≤ 9223372036854775807) (hb : (n + m) * bytes ≤ 140737488355328) :
    (Builtin.append_ #[sT, xT] ty #[.slice b' n c, x']).run P w = .ok (.slice (some ⟨w.heap.size, 0, none⟩) (n + m) (grownCap w (n + m) c T.e)) (w.drew.alloc (.cells (olds.toArray ++ news.toArray ++ Builtin.zeroCells T.z.cells (grownCap w (n + m) c T.e - (n + m))) T.e)) := by
  have hn : ¬ (n + m ≤ c) := by omega
  have h63' : ¬ (9223372036854775807 < ((n : Int) + (m : Int))) := by omega
  have hfit := growslice_fits (bytes := T.i.bytes) hgt (by rw [T.hby]; exact hb)
  have h48' : ¬ (281474976710656 < Builtin.nextslicecap (n + m) c * T.i.bytes) := by omega
  have hnoint : ∀ k, T.d ≠ .int k := by
    intro k e
    rcases T.hd with ⟨_, h⟩ | ⟨h, _⟩ <;> rw [h] at e <;> cases e
  rcases T.hd with ⟨e', hd⟩ | ⟨hd, _⟩
  · have hx := T.hx; rw [hd] at hx
    simp [Builtin.append_, run_underlying T.hu, run_underlying hx, sizeOf, typeInfo, zeroValue, T.hi, T.hz, T.hsz, hlen, hn, h63', h48', Question.forced, h1, h2, newRow, grownCap]
    congr 2; rw [← Array.append_assoc]; congr 1; simp
  · have hx := T.hx; rw [hd] at hx
    simp [Builtin.append_, run_underlying T.hu, run_underlying hx, sizeOf, typeInfo, zeroValue, T.hi, T.hz, T.hsz, hlen, hn, h63', h48', Question.forced, h1, h2, newRow, grownCap]
    congr 2; rw [← Array.append_assoc]; congr 1; simp
theorem room_run {sT xT ty : TypeId} {size bytes u : Nat} (T : AppT P sT xT size bytes u) {b : Addr} {n c m : Nat} {x' : Value} {news : List Value} (hlen : (Builtin.lenOf x').run P w = .ok m w)
    (h2 : (Builtin.firstCells size m x').run P w = .ok news.toArray w) {w' : World} (hst : (storeCells (b.add (n * size)) news).run P w = .ok () w') (hle : n + m ≤ c) :
    (Builtin.append_ #[sT, xT] ty #[.slice (some b) n c, x']).run P w = .ok (.slice (some b) (n + m) c) w' := by
  rcases T.hd with ⟨e', hd⟩ | ⟨hd, _⟩
  · have hx := T.hx; rw [hd] at hx
    simp [Builtin.append_, run_underlying T.hu, run_underlying hx, sizeOf, typeInfo, T.hi, T.hsz, hlen, hle, h2, hst]
  · have hx := T.hx; rw [hd] at hx
    simp [Builtin.append_, run_underlying T.hu, run_underlying hx, sizeOf, typeInfo, T.hi, T.hsz, hlen, hle, h2, hst]
theorem none_run {sT xT ty : TypeId} {size bytes u : Nat} (T : AppT P sT xT size bytes u) {b : Option Addr} {n c : Nat} {x' : Value} (hlen : (Builtin.lenOf x').run P w = .ok 0 w)
    (h2 : (Builtin.firstCells size 0 x').run P w = .ok #[] w) (hle : n ≤ c) : (Builtin.append_ #[sT, xT] ty #[.slice b n c, x']).run P w = .ok (.slice b n c) w := by
  rcases T.hd with ⟨e', hd⟩ | ⟨hd, _⟩
  · have hx := T.hx; rw [hd] at hx
    cases b <;> simp [Builtin.append_, run_underlying T.hu, run_underlying hx, sizeOf, typeInfo, T.hi, T.hsz, hlen, hle, h2, storeCells]
  · have hx := T.hx; rw [hd] at hx
    cases b <;> simp [Builtin.append_, run_underlying T.hu, run_underlying hx, sizeOf, typeInfo, T.hi, T.hsz, hlen, hle, h2, storeCells]

/-- what is appended: its count and its cells, in this world and behind a draw -/
theorem src_ok (h : HR P base lim ι H.t w) {sT xT : TypeId} {size bytes u : Nat} (T : AppT P sT xT size bytes u) {x x' : Value} {m : Nat} {news : List Value} (hx : VR ι x x') (hm : gcount x = some m) (hn : gcells size m H x = some news) :
    (Builtin.lenOf x').run P w = .ok m w ∧ ∃ ds, (Builtin.firstCells size m x').run P w = .ok ds.toArray w ∧ (Builtin.firstCells size m x').run P w.drew = .ok ds.toArray w.drew ∧ VRs ι news ds ∧ (∀ v ∈ news, flatV v = true) := by
  have hc1 : ∀ a n c, x = .slice a n c → m ≤ n := by rintro a n c rfl; cases hm; exact Nat.le_refl _
  have hc2 : ∀ s, x = .string s → m ≤ s.size := by rintro s rfl; cases hm; exact Nat.le_refl _
  obtain ⟨ds, g1, g2, g3, _⟩ := gcells_ok h hx hn hc1 hc2
  obtain ⟨ds', k1, k2, _, _⟩ := gcells_ok (h.le (Le.drew w)) hx hn hc1 hc2
  have : ds = ds' := by
    unfold gcells at hn
    cases x with
    | string s =>
      obtain rfl := hx.str_inv
      simp only [Builtin.firstCells, Sem.run_pure, Result.ok.injEq, and_true] at g1 k1
      have := g1.symm.trans k1
      simpa using this
    | slice a n c =>
      cases a with
      | none =>
        obtain ⟨_, _, rfl⟩ := hx.slN_inv
        simp only [Builtin.firstCells, Sem.run_pure, Result.ok.injEq, and_true] at g1 k1
        have := g1.symm.trans k1
        simpa using this
      | some a =>
        obtain ⟨b', c', rfl⟩ := hx.slS_inv
        simp only [Builtin.firstCells] at g1 k1
        have e : ∀ (n i : Nat) (acc : Array Value) (r : Array Value) , (loadCellsFrom b' i n acc).run P w = .ok r w → (loadCellsFrom b' i n acc).run P w.drew = .ok r w.drew := by
          intro n
          induction n with
          | zero => intro i acc r hr; simp [loadCellsFrom] at hr ⊢; exact hr
          | succ n ih =>
            intro i acc r hr
            simp only [loadCellsFrom, Sem.run_bind, run_load, World.cell?_drew] at hr ⊢
            cases hcell : w.cell? (b'.add i) with
            | some v => rw [hcell] at hr; simp only [Result.andThen_ok] at hr ⊢; exact ih _ _ _ hr
            | none =>
              rw [hcell] at hr
              have hfl : w.drew.farLoad P (b'.add i) (Mode.plain == Mode.atomic) = w.farLoad P (b'.add i) (Mode.plain == Mode.atomic) := rfl
              simp only [hfl]
              cases hf : w.farLoad P (b'.add i) (Mode.plain == Mode.atomic) with
              | ok q => rw [hf] at hr; obtain ⟨q1, q2⟩ := q; simp only [Result.andThen_ok] at hr ⊢; exact ih _ _ _ hr
              | error x => rw [hf] at hr; simp at hr
        have := e _ _ _ _ g1
        unfold loadCells at k1
        rw [this] at k1
        simpa using k1
    | _ => simp [gcount] at hm
  subst this
  refine ⟨?_, ds, g1, k1, g2, g3⟩
  cases x with
  | string s => obtain rfl := hx.str_inv; cases hm; simp [Builtin.lenOf]
  | slice a n c =>
    cases hm
    cases a with
    | none => obtain ⟨rfl, rfl, rfl⟩ := hx.slN_inv; simp [Builtin.lenOf]
    | some a => obtain ⟨b', c', rfl⟩ := hx.slS_inv; simp [Builtin.lenOf]
  | _ => simp [gcount] at hm

theorem T_size (hb : szK P P.rt.byte = some 1) {sT xT : TypeId} {size bytes u : Nat} (T : AppT P sT xT size bytes u) : u = 0 ∨ usz u = size := by
  rw [T.hu0]
  exact uK_size (by simp [szK, T.hi, T.hsz]) hb
/-- the new row of an append that grows -/
theorem grow_ok (h : HR P base lim ι H.t w) (hb : szK P P.rt.byte = some 1) (hn : ι H.len = none) {sT xT ty : TypeId} {size bytes u : Nat} (T : AppT P sT xT size bytes u) {b' : Option Addr} {n c m : Nat} {x' : Value} {os ns olds news : List Value} (hlen : (Builtin.lenOf x').run P w = .ok m w)
    (h1 : (Builtin.firstCells size n (.slice b' n c)).run P w.drew = .ok olds.toArray w.drew) (h2 : (Builtin.firstCells size m x').run P w.drew = .ok news.toArray w.drew) (ho : VRs ι os olds) (hnw : VRs ι ns news) (hof : ∀ v ∈ os, flatV v = true) (hnf : ∀ v ∈ ns, flatV v = true)
    (hol : os.length = n * size) (hnl : ns.length = m * size) (hgt : c < n + m) (h63 : n + m ≤ 9223372036854775807) (hby : (n + m) * bytes ≤ 140737488355328) (hs0 : size ≠ 0) :
    MOk P base lim ι H w (.slice (some ⟨H.len, 0, none⟩) (n + m) 0) (some (.cells (os ++ ns) u true)) (do pure (.value (← Builtin.append_ #[sT, xT] ty #[.slice b' n c, x']))) := by
  have hrun := grow_run (ty := ty) T hlen h1 h2 hgt h63 hby
  have hge := grownCap_ge w (n + m) c T.e
  have hl : (os ++ ns).length = (n + m) * size := by simp [hol, hnl, Nat.add_mul]
  have hrel := ho.append hnw
  have hsize : (olds.toArray ++ news.toArray ++ Builtin.zeroCells T.z.cells (grownCap w (n + m) c T.e - (n + m))).size = grownCap w (n + m) c T.e * size := by
    have e1 : olds.length + news.length = (n + m) * size := by have := hrel.1; simp only [List.length_append] at this hl; omega
    simp only [Array.size_append, List.size_toArray, size_zeroCells, T.hzs, e1]
    rw [← Nat.add_mul]; congr 1; omega
  refine MOk.row h hn (Le.drew w) rfl (C := olds.toArray ++ news.toArray ++ Builtin.zeroCells T.z.cells (grownCap w (n + m) c T.e - (n + m))) (t := T.e) (f := (0, 0)) (by
    intro v hv; rcases List.mem_append.1 hv with hv | hv
    · exact hof v hv
    · exact hnf v hv) hrel ?_ ?_ (.inl rfl) (fun e => by rw [T.hu0] at e; exact uK_257 e) (by simp [hrun]; rfl) ?_
  · intro j v hv
    have hj := (List.getElem?_eq_some_iff.1 hv).1
    rw [Array.getElem?_append_left (by simpa using hj)]
    simpa using hv
  · simp
  · have := VR.sl (ι := ι.upd H.len ⟨w.heap.size, 0, usz u, (olds.toArray ++ news.toArray ++ Builtin.zeroCells T.z.cells (grownCap w (n + m) c T.e - (n + m))).size⟩) (i := H.len) (o := 0) (n := n + m) (gc := 0) (c := grownCap w (n + m) c T.e) (Inj.upd_same _ _ _) hge (.inl rfl) (by
      rcases T_size hb T with e1 | e1
      · left; simp [e1, usz]
      · right; simp only [e1, hsize]; omega)
    simpa using this

theorem gappM_ok (h : HR P base lim ι H.t w) (hb : szK P P.rt.byte = some 1) {sT xT ty : TypeId} {size bytes u : Nat} (T : AppT P sT xT size bytes u) {s s' x x' v : Value} {new : Option GObj} (hs : VR ι s s') (hx : VR ι x x') (hr : gappM size bytes u H s x = some (v, new)) (hn : new.isSome = true → ι H.len = none) :
    MOk P base lim ι H w v new (do pure (.value (← Builtin.append_ #[sT, xT] ty #[s', x']))) := by
  simp only [gappM, Option.bind_eq_some_iff] at hr
  obtain ⟨m, hm, news, hnews, hr⟩ := hr
  obtain ⟨hlen, ds, hf1, hf2, hd1, hd2⟩ := src_ok h T hx hm hnews
  split at hr
  · rename_i b n gc
    split at hr
    · rename_i hm0
      subst hm0
      cases hr
      have hds : ds = [] := by
        unfold gcells at hnews
        cases x with
        | string q => simp at hnews; subst hnews; exact hd1.nil_inv
        | slice a n c =>
          cases a with
          | none => simp at hnews; subst hnews; exact hd1.nil_inv
          | some a =>
            obtain ⟨bb, oo, sp⟩ := a
            cases sp <;> simp at hnews
            subst hnews; exact hd1.nil_inv
        | _ => simp [gcount] at hm
      subst hds
      have : ∃ b' c', s' = .slice b' n c' ∧ n ≤ c' := by
        cases hs with
        | lit hl => simp [litFlat] at hl; cases b <;> simp [litFlat] at hl; exact ⟨_, _, rfl, by omega⟩
        | slV => exact ⟨_, _, rfl, by omega⟩
        | sl _ hn => exact ⟨_, _, rfl, hn⟩
      obtain ⟨b', c', rfl, hle⟩ := this
      exact MOk.same h (by simp [none_run (ty := ty) T hlen (by simpa using hf1) hle]) hs
    · rename_i hm0
      split at hr
      · rename_i hc
        obtain ⟨hc1, hc2, hc3, hc4⟩ := hc
        split at hr
        · split at hr
          · rename_i hn0
            cases hr
            subst hn0
            obtain ⟨_, _, rfl⟩ := hs.slN_inv
            have := grow_ok (ty := ty) (x' := x') (b' := none) (n := 0) (c := 0) (os := []) (olds := []) h hb (hn rfl) T hlen (by simp [Builtin.firstCells]) hf2 .nil hd1 (by simp) hd2 (by simp) hc4 (by omega) hc2 (by simpa using hc1) hc3
            simpa using this
          · cases hr
        · rename_i a
          split at hr
          · rename_i hgc
            simp only [Option.bind_eq_some_iff] at hr
            obtain ⟨olds, ho, hr⟩ := hr
            split at hr
            · rename_i hol
              cases hr
              obtain ⟨dd, e1, e2, e3, _⟩ := gcells_ok (h.le (Le.drew w)) hs ho (by intro a' n' c' e; cases e; exact Nat.le_refl _) (by intro q e; cases e)
              have : ∃ b' c', s' = .slice (some b') n c' ∧ c' < n + m := by
                cases hs with
                | lit hl => simp [litFlat] at hl
                | slV => exact ⟨_, _, rfl, by omega⟩
                | sl _ hn hg => exact ⟨_, _, rfl, by omega⟩
              obtain ⟨b', c', rfl, hlt⟩ := this
              exact grow_ok (ty := ty) (x' := x') h hb (hn rfl) T hlen (by simpa using e1) hf2 e2 hd1 e3 hd2 hol hc4 hlt hc2 hc1 hc3
            · cases hr
          · cases hr
      · cases hr
  · cases hr
end
end Go.Gh
