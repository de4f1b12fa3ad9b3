/-
 The ghost machine: operations that write, rows, calls.
-/
import Derived.Test.YtfldcmeecpgpeaaGreatDoorK1
import Derived.Lib.OthersKept
import Derived.LoopN
namespace Go.Gh
set_option linter.unusedVariables false
set_option linter.unusedSimpArgs false
open Go.RowKit
section
variable {P : Program} {base lim : Nat} {ι : Inj} {H : GHeap} {w : World} {fr : Fr} {act : Act}
def setA (C : Array Value) : Nat → List Value → Array Value
 | _, [] => C
 | o, v :: r => setA (C.setIfInBounds o v) (o + 1) r
theorem setA_size : ∀ (vs : List Value) (C : Array Value) (o : Nat), (setA C o vs).size = C.size
 | [], _, _ => rfl
 | v :: r, C, o => by rw [setA, setA_size r]; simp
theorem setCells_heap (b : Nat) : ∀ (vs : List Value) (o : Nat) (w : World) (C : Array Value) (t : TypeId) (f : Nat × Nat), w.heap[b]? = some (.cells C t f) →
  (w.setCells b o vs).heap[b]? = some (.cells (setA C o vs) t f) ∧ (w.setCells b o vs).heap.size = w.heap.size ∧ (∀ k, k ≠ b → (w.setCells b o vs).heap[k]? = w.heap[k]?) ∧ (w.setCells b o vs).os = w.os ∧ (w.setCells b o vs).tape = w.tape ∧ (w.setCells b o vs).output = w.output
 | [], o, w, C, t, f, h => ⟨h, rfl, fun _ _ => rfl, rfl, rfl, rfl⟩
 | v :: r, o, w, C, t, f, h => by
  have h1 : (w.setCell ⟨b, o, none⟩ v).heap[b]? = some (.cells (C.setIfInBounds o v) t f) := by simp [World.setCell, Array.getElem?_modify, h]
  obtain ⟨g1, g2, g3, g4, g5, g6⟩ := setCells_heap b r (o + 1) (w.setCell ⟨b, o, none⟩ v) _ t f h1
  refine ⟨g1, g2.trans (by simp), fun k hk => (g3 k hk).trans (Below.heap_setCell w ⟨b, o, none⟩ v k hk), g4, g5, g6⟩
theorem frozen_no {b : Nat} {C : Array Value} {t : TypeId} {f : Nat × Nat} (h : w.heap[b]? = some (.cells C t f)) (hf : f.1 = f.2 ∨ C.size ≤ f.1) {o : Nat} (ho : o < C.size) : w.frozen? ⟨b, o, none⟩ = false := by
 simp only [World.frozen?, h]
 obtain ⟨f1, f2⟩ := f
 simp only at hf
 rcases hf with rfl | hf
 ·by_cases h1 : f1 ≤ o <;> simp [h1]
 ·have : ¬ f1 ≤ o := by omega
  simp [this]
theorem raw_store {b o : Nat} {vs : List Value} {C : Array Value} {t : TypeId} {f : Nat × Nat} (h : w.heap[b]? = some (.cells C t f)) (hf : f.1 = f.2 ∨ C.size ≤ f.1) (hl : o + vs.length ≤ C.size) (h1 : ∀ v ∈ vs, v.oneCell' = true) :
  (storeCells ⟨b, o, none⟩ vs).run P w = .ok () (w.setCells b o vs) ∧ (∀ (j : Nat) v, vs[j]? = some v → (w.setCells b o vs).cell? ⟨b, o + j, none⟩ = some v) ∧
  (∀ j, (j < o ∨ o + vs.length ≤ j) → (w.setCells b o vs).cell? ⟨b, j, none⟩ = w.cell? ⟨b, j, none⟩) := by
 have hc : ∀ j, j < vs.length → (w.cell? ⟨b, o + j, none⟩).isSome = true := fun j hj => by
  have : o + j < C.size := by omega
  simp [World.cell?, h, this]
 refine ⟨?_, fun j v hv => ?_, fun j hj => ?_⟩
 ·have := run_storeCells_cells (P := P) b o vs 0 w (by simpa using hc) (fun j hj => frozen_no h hf (by simp; omega)) h1
  simpa using this
 ·obtain ⟨hj, rfl⟩ := List.getElem?_eq_some_iff.1 hv
  have := World.cell?_setCells_in b vs o w hc j hj
  simpa [hj] using this
 ·exact World.cell?_setCells_out b vs o w ⟨b, j, none⟩ (fun _ _ => by simpa using hj)
theorem mine_some {i : Nat} {cs : List Value} {u : Nat} (h : H.mine i = some (cs, u)) : H.lim ≤ i ∧ H.t.get i = some (.cells cs u true) := by
 unfold GHeap.mine GHeap.obj at h
 split at h
 ·rename_i hl
  split at h
  ·rename_i ho
   cases h
   exact ⟨hl, ho⟩
  ·cases h
 ·cases h
theorem store_ok (h : HR P base H.lim ι H.t w) {i : Nat} {l : GLoc} (hi : ι i = some l) {cs : List Value} {u : Nat} (hm : H.mine i = some (cs, u)) {o : Nat} {vs vs' : List Value} (hv : VRs ι vs vs') (hf : ∀ v ∈ vs, flatV v = true) (ho : o + vs.length ≤ cs.length) :
  ∃ w', (storeCells ⟨l.block, l.off + o, none⟩ vs').run P w = .ok () w' ∧ HR P base H.lim ι (H.put i (.cells (cs.take o ++ vs ++ cs.drop (o + vs.length)) u true)).t w' ∧ Below base w w' ∧ w'.heap.size = w.heap.size ∧ (∀ k, k ≠ l.block → w'.heap[k]? = w.heap[k]?) := by
 obtain ⟨hlim, hobj⟩ := mine_some hm
 have hr := h.obj i l _ hi hobj
 obtain ⟨hu, hcells, hown⟩ := hr
 obtain ⟨hb, hsz, C, t, f, hheap, hC, hfr, hbyte⟩ := hown rfl hlim
 have hvl : vs'.length = vs.length := hv.1.symm
 obtain ⟨r1, r2, r3⟩ := raw_store (P := P) (o := l.off + o) hheap hfr (by omega) (hv.flat hf)
 obtain ⟨g1, g2, g3, g4, g5, g6⟩ := setCells_heap l.block vs' (l.off + o) w C t f hheap
 refine ⟨_, r1, ?_, ⟨g4, g5, g6, by omega, fun k hk => g3 k (by omega)⟩, g2, g3⟩
 refine h.turn hi hobj hlim rfl g2 g3 ⟨hu, fun j v hj => ?_, fun _ _ => ⟨hb, ?_, setA C (l.off + o) vs', t, f, g1, by rw [setA_size]; exact hC, by rw [setA_size]; exact hfr, hbyte⟩⟩
 ·rw [List.append_assoc, List.getElem?_append] at hj
  split at hj
  ·rename_i h1
   rw [List.getElem?_take] at hj
   split at hj
   ·rename_i h2
    obtain ⟨q1, v', q2, q3⟩ := hcells j v hj
    exact ⟨q1, v', by rw [r3 _ (.inl (by omega))]; exact q2, q3⟩
   ·cases hj
  ·rename_i h1
   have h1' : ¬ j < o := by simp at h1; omega
   have e : (cs.take o).length = o := by simp; omega
   rw [e, List.getElem?_append] at hj
   split at hj
   ·rename_i h2
    obtain ⟨v', q1, q2⟩ := hv.2 _ v hj
    refine ⟨hf v (List.mem_of_getElem? hj), v', ?_, q2⟩
    have := r2 _ v' q1
    rw [show l.off + j = l.off + o + (j - o) by omega]
    exact this
   ·rename_i h2
    rw [List.getElem?_drop] at hj
    have e2 : o + vs.length + (j - o - vs.length) = j := by omega
    rw [e2] at hj
    obtain ⟨q1, v', q2, q3⟩ := hcells j v hj
    exact ⟨q1, v', by rw [r3 _ (.inr (by omega))]; exact q2, q3⟩
 ·simp; omega
theorem take_set_drop (cs : List Value) (o : Nat) (v : Value) (h : o < cs.length) : cs.take o ++ [v] ++ cs.drop (o + 1) = cs.set o v := by
 rw [List.set_eq_take_append_cons_drop, if_pos h]; simp
theorem gst_ok (h : HR P base H.lim ι H.t w) {t : TypeId} {k : Option Nat} (hk : stK P t = some k) {p p' v v' : Value} (hp : VR ι p p') (hv : VR ι v v') {H' : GHeap} (hr : gst k H p v = some H') :
  ∃ w' i l, (Instr.storeAt t p' v').run P w = .ok () w' ∧ HR P base H.lim ι H'.t w' ∧ H'.len = H.len ∧ H'.lim = H.lim ∧ Below base w w' ∧ w'.heap.size = w.heap.size ∧ ι i = some l ∧ idOf p = [i] ∧ (∀ q, q ≠ i → H'.t.get q = H.t.get q) ∧ H'.unit i = H.unit i ∧ (∀ k, k ≠ l.block → w'.heap[k]? = w.heap[k]?) := by
 unfold gst at hr
 split at hr
 ·rename_i i o
  obtain ⟨l, hl, rfl⟩ := hp.ptr_inv
  split at hr
  ·cases hr
  ·rename_i cs u hm
   obtain ⟨_, hobj⟩ := mine_some hm
   have hunit : ∀ cs', (H.put i (.cells cs' u true)).unit i = H.unit i := fun cs' => by
    simp [GHeap.unit, GHeap.obj, GHeap.put, hobj, GObj.unit]
   have hother : ∀ cs' q, q ≠ i → (H.put i (.cells cs' u true)).t.get q = H.t.get q := fun cs' q hq => Tr.get_set_ne _ _ (Ne.symm hq)
   cases k with
   | none =>
    simp only at hr
    split at hr
    ·rename_i hc
     cases hr
     have hs1 : szK P t = some 1 := by
      unfold stK at hk
      split at hk
      ·split at hk
       ·assumption
       ·cases hk
      ·rename_i hne; exact absurd hk (by intro e; exact hne e)
     obtain ⟨w', r1, r2, r3, r4, r5⟩ := store_ok h hl hm (o := o) (vs := [v]) (vs' := [v']) (.cons hv .nil) (by intro u hu; simp at hu; subst hu; exact hc.2) (by simp; omega)
     rw [show o + [v].length = o + 1 by simp, take_set_drop cs o v hc.1] at r2
     refine ⟨w', i, l, ?_, r2, rfl, rfl, r3, r4, hl, rfl, hother _, hunit _, r5⟩
     have hcl : v'.cells = #[v'] := by
      have := (hv.flat hc.2).1
      cases v' <;> simp_all [flatV, Value.cells]
     simp [Instr.storeAt, Instr.sureAddr, storeVar, szK_run hs1, hcl, r1]
    ·cases hr
   | some n =>
    simp only at hr
    split at hr
    ·rename_i vs
     split at hr
     ·rename_i hc
      cases hr
      obtain ⟨hc1, hc2, hc3⟩ := hc
      have hs1 : szK P t = some n := by
       unfold stK at hk
       split at hk
       ·split at hk <;> cases hk
       ·unfold ldK at hk
        split at hk
        ·cases hk
        ·split at hk
         ·simpa using hk
         ·cases hk
      obtain ⟨ds, rfl, hds⟩ := hv.agg_inv
      have hln : vs.toList.length = n := by simpa using hc1
      have hdn : ds.size = n := by have := hds.1; simp at this; omega
      obtain ⟨w', r1, r2, r3, r4, r5⟩ := store_ok h hl hm (o := o) hds (by
       intro x hx
       obtain ⟨j, hj, rfl⟩ := List.getElem_of_mem hx
       have := (Array.all_eq_true.1 hc3) j (by simpa using hj)
       simpa using this) (by omega)
      rw [hln] at r2
      refine ⟨w', i, l, ?_, r2, rfl, rfl, r3, r4, hl, rfl, hother _, hunit _, r5⟩
      simp [Instr.storeAt, Instr.sureAddr, storeVar, szK_run hs1, Value.cells, hdn, r1]
     ·cases hr
    ·cases hr
 ·cases hr
end
end Go.Gh
namespace Go.Gh
set_option linter.unusedVariables false
set_option linter.unusedSimpArgs false
open Go.RowKit
section
variable {P : Program} {base lim : Nat} {ι : Inj} {H : GHeap} {w : World}
structure AppT (P : Program) (sT : TypeId) (size bytes u : Nat) where
 e : TypeId
 i : TypeInfo
 z : Value
 hu : P.underlying sT = some (.slice e)
 hi : P.info? e = some i
 hz : i.zero = some z
 hsz : i.size = size
 hby : i.bytes = bytes
 hzs : z.cells.size = size
 hlit : ∀ v ∈ z.cells.toList, litFlat v = true
 hu0 : u = uK P e
def Src (P : Program) (xT : TypeId) (z : Value) (size bytes m : Nat) (x' : Value) (news : List Value) (w : World) : Prop :=
 ((∃ d, P.underlying xT = some d ∧ ((∃ e', d = .slice e') ∨ (d = .string ∧ size = 1))) ∧ (Builtin.lenOf x').run P w = .ok m w ∧ (Builtin.firstCells size m x').run P w = .ok news.toArray w ∧ (Builtin.firstCells size m x').run P w.drew = .ok news.toArray w.drew) ∨
 (∃ k k' j, P.underlying xT = some (.int k) ∧ x' = .int k' j ∧ IntKind.i64.wrap j = (m : Int) ∧ news.toArray = Builtin.zeroCells z.cells m ∧ m * bytes ≤ 281474976710656)
theorem grow_run {sT xT ty : TypeId} {size bytes u : Nat} (T : AppT P sT size bytes u) {b' : Option Addr} {n c m : Nat} {x' : Value} {olds news : List Value} (hsrc : Src P xT T.z size bytes m x' news w)
  (h1 : (Builtin.firstCells size n (.slice b' n c)).run P w.drew = .ok olds.toArray w.drew)
  (hgt : c < n + m) (h63 : n + m ≤ 9223372036854775807) (hb : (n + m) * bytes ≤ 140737488355328) :
  (Builtin.append_ #[sT, xT] ty #[.slice b' n c, x']).run P w = .ok (.slice (some ⟨w.heap.size, 0, none⟩) (n + m) (grownCap w (n + m) c T.e)) (w.drew.alloc (.cells (olds.toArray ++ news.toArray ++ Builtin.zeroCells T.z.cells (grownCap w (n + m) c T.e - (n + m))) T.e)) := by
 have hn : ¬ (n + m ≤ c) := by omega
 have h63' : ¬ (9223372036854775807 < ((n : Int) + (m : Int))) := by omega
 have hfit := growslice_fits (bytes := T.i.bytes) hgt (by rw [T.hby]; exact hb)
 have h48' : ¬ (281474976710656 < Builtin.nextslicecap (n + m) c * T.i.bytes) := by omega
 rcases hsrc with ⟨⟨d, hx, hd⟩, hlen, _, h2⟩ | ⟨k, k', j, hx, rfl, hj, hnews, hmb⟩
 ·rcases hd with ⟨e', hd⟩ | ⟨hd, _⟩
  ·rw [hd] at hx
   simp [Builtin.append_, run_underlying T.hu, run_underlying hx, sizeOf, typeInfo, zeroValue, T.hi, T.hz, T.hsz, hlen, hn, h63', h48', Question.forced, h1, h2, newRow, grownCap]
   congr 2; rw [← Array.append_assoc]; congr 1; simp
  ·rw [hd] at hx
   simp [Builtin.append_, run_underlying T.hu, run_underlying hx, sizeOf, typeInfo, zeroValue, T.hi, T.hz, T.hsz, hlen, hn, h63', h48', Question.forced, h1, h2, newRow, grownCap]
   congr 2; rw [← Array.append_assoc]; congr 1; simp
 ·have hmb' : ¬ (281474976710656 < (m : Int) * (T.i.bytes : Int)) := by rw [T.hby]; omega
  have hneg : ¬ ((m : Int) < 0) := by omega
  have hz0 : m * size = 0 → news.toArray = #[] := by
   intro h0; rw [hnews]; unfold Builtin.zeroCells; rw [T.hzs, h0]; simp
  by_cases h0 : m * size = 0
  ·simp [Builtin.append_, run_underlying T.hu, run_underlying hx, sizeOf, typeInfo, zeroValue, T.hi, T.hz, T.hsz, asInt, asIntOf, hj, hneg, hmb', hn, h63', h48', Question.forced, h1, newRow, grownCap, h0, hz0 h0]
  ·simp [Builtin.append_, run_underlying T.hu, run_underlying hx, sizeOf, typeInfo, zeroValue, T.hi, T.hz, T.hsz, asInt, asIntOf, hj, hneg, hmb', hn, h63', h48', Question.forced, h1, newRow, grownCap, h0, hnews]
theorem room_run {sT xT ty : TypeId} {size bytes u : Nat} (T : AppT P sT size bytes u) {b : Addr} {n c m : Nat} {x' : Value} {news : List Value} (hsrc : Src P xT T.z size bytes m x' news w)
  {w' : World} (hst : (storeCells (b.add (n * size)) news).run P w = .ok () w') (hle : n + m ≤ c) :
  (Builtin.append_ #[sT, xT] ty #[.slice (some b) n c, x']).run P w = .ok (.slice (some b) (n + m) c) w' := by
 rcases hsrc with ⟨⟨d, hx, hd⟩, hlen, h2, _⟩ | ⟨k, k', j, hx, rfl, hj, hnews, hmb⟩
 ·rcases hd with ⟨e', hd⟩ | ⟨hd, _⟩
  ·rw [hd] at hx
   simp [Builtin.append_, run_underlying T.hu, run_underlying hx, sizeOf, typeInfo, T.hi, T.hsz, hlen, hle, h2, hst]
  ·rw [hd] at hx
   simp [Builtin.append_, run_underlying T.hu, run_underlying hx, sizeOf, typeInfo, T.hi, T.hsz, hlen, hle, h2, hst]
 ·have hmb' : ¬ (281474976710656 < (m : Int) * (T.i.bytes : Int)) := by rw [T.hby]; omega
  have hneg : ¬ ((m : Int) < 0) := by omega
  have hz0 : m * size = 0 → news = [] := by
   intro h0
   have : news.toArray = #[] := by rw [hnews]; unfold Builtin.zeroCells; rw [T.hzs, h0]; simp
   simpa using this
  by_cases h0 : m * size = 0
  ·rw [hz0 h0] at hst
   simp [Builtin.append_, run_underlying T.hu, run_underlying hx, sizeOf, typeInfo, zeroValue, T.hi, T.hz, T.hsz, asInt, asIntOf, hj, hneg, hmb', hle, h0, hst]
  ·simp [Builtin.append_, run_underlying T.hu, run_underlying hx, sizeOf, typeInfo, zeroValue, T.hi, T.hz, T.hsz, asInt, asIntOf, hj, hneg, hmb', hle, h0, ← hnews, hst]
theorem none_run {sT xT ty : TypeId} {size bytes u : Nat} (T : AppT P sT size bytes u) {b : Option Addr} {n c : Nat} {x' : Value} {news : List Value} (hsrc : Src P xT T.z size bytes 0 x' news w) (hnil : news = [])
  (hle : n ≤ c) : (Builtin.append_ #[sT, xT] ty #[.slice b n c, x']).run P w = .ok (.slice b n c) w := by
 subst hnil
 rcases hsrc with ⟨⟨d, hx, hd⟩, hlen, h2, _⟩ | ⟨k, k', j, hx, rfl, hj, hnews, hmb⟩
 ·rcases hd with ⟨e', hd⟩ | ⟨hd, _⟩
  ·rw [hd] at hx
   cases b <;> simp [Builtin.append_, run_underlying T.hu, run_underlying hx, sizeOf, typeInfo, T.hi, T.hsz, hlen, hle, h2, storeCells]
  ·rw [hd] at hx
   cases b <;> simp [Builtin.append_, run_underlying T.hu, run_underlying hx, sizeOf, typeInfo, T.hi, T.hsz, hlen, hle, h2, storeCells]
 ·have hw0 : IntKind.i64.wrap j = 0 := by simpa using hj
  cases b <;> simp [Builtin.append_, run_underlying T.hu, run_underlying hx, sizeOf, typeInfo, zeroValue, T.hi, T.hz, T.hsz, asInt, asIntOf, hw0, hle, storeCells]
theorem src_ok (h : HR P base lim ι H.t w) {size : Nat} {x x' : Value} {m : Nat} {news : List Value} (hx : VR ι x x') (hm : gcount x = some m) (hn : gcells size m H x = some news) :
  (Builtin.lenOf x').run P w = .ok m w ∧ ∃ ds, (Builtin.firstCells size m x').run P w = .ok ds.toArray w ∧ (Builtin.firstCells size m x').run P w.drew = .ok ds.toArray w.drew ∧ VRs ι news ds ∧ (∀ v ∈ news, flatV v = true) := by
 have hc1 : ∀ a n c, x = .slice a n c → m ≤ n := by rintro a n c rfl; cases hm; exact Nat.le_refl _
 have hc2 : ∀ s, x = .string s → m ≤ s.size := by rintro s rfl; cases hm; exact Nat.le_refl _
 obtain ⟨ds, g1, g2, g3, _⟩ := gcells_ok h hx hn hc1 hc2
 obtain ⟨ds', k1, k2, _, _⟩ := gcells_ok (h.le (Le.drew w)) hx hn hc1 hc2
 have : ds = ds' := by
  unfold gcells at hn
  cases x with
  | string s =>
   obtain rfl := hx.str_inv
   simp only [Builtin.firstCells, Sem.run_pure, Result.ok.injEq, and_true] at g1 k1
   have := g1.symm.trans k1
   simpa using this
  | slice a n c =>
   cases a with
   | none =>
    obtain ⟨_, _, rfl⟩ := hx.slN_inv
    simp only [Builtin.firstCells, Sem.run_pure, Result.ok.injEq, and_true] at g1 k1
    have := g1.symm.trans k1
    simpa using this
   | some a =>
    obtain ⟨b', c', rfl⟩ := hx.slS_inv
    simp only [Builtin.firstCells] at g1 k1
    have e : ∀ (n i : Nat) (acc : Array Value) (r : Array Value) , (loadCellsFrom b' i n acc).run P w = .ok r w → (loadCellsFrom b' i n acc).run P w.drew = .ok r w.drew := by
     intro n
     induction n with
     | zero => intro i acc r hr; simp [loadCellsFrom] at hr ⊢; exact hr
     | succ n ih =>
      intro i acc r hr
      simp only [loadCellsFrom, Sem.run_bind, run_load, World.cell?_drew] at hr ⊢
      cases hcell : w.cell? (b'.add i) with
      | some v => rw [hcell] at hr; simp only [Result.andThen_ok] at hr ⊢; exact ih _ _ _ hr
      | none =>
       rw [hcell] at hr
       have hfl : w.drew.farLoad P (b'.add i) (Mode.plain == Mode.atomic) = w.farLoad P (b'.add i) (Mode.plain == Mode.atomic) := rfl
       simp only [hfl]
       cases hf : w.farLoad P (b'.add i) (Mode.plain == Mode.atomic) with
       | ok q => rw [hf] at hr; obtain ⟨q1, q2⟩ := q; simp only [Result.andThen_ok] at hr ⊢; exact ih _ _ _ hr
       | error x => rw [hf] at hr; simp at hr
    have := e _ _ _ _ g1
    unfold loadCells at k1
    rw [this] at k1
    simpa using k1
  | _ => simp [gcount] at hm
 subst this
 refine ⟨?_, ds, g1, k1, g2, g3⟩
 cases x with
 | string s => obtain rfl := hx.str_inv; cases hm; simp [Builtin.lenOf]
 | slice a n c =>
  cases hm
  cases a with
  | none => obtain ⟨rfl, rfl, rfl⟩ := hx.slN_inv; simp [Builtin.lenOf]
  | some a => obtain ⟨b', c', rfl⟩ := hx.slS_inv; simp [Builtin.lenOf]
 | _ => simp [gcount] at hm
theorem T_size (hb : szK P P.rt.byte = some 1) {sT : TypeId} {size bytes u : Nat} (T : AppT P sT size bytes u) : u = 0 ∨ usz u = size := by
 rw [T.hu0]
 exact uK_size (by simp [szK, T.hi, T.hsz]) hb
theorem grow_ok (h : HR P base lim ι H.t w) (hb : szK P P.rt.byte = some 1) (hn : ι H.len = none) {sT xT ty : TypeId} {size bytes u : Nat} (T : AppT P sT size bytes u) {b' : Option Addr} {n c m : Nat} {x' : Value} {os ns olds news : List Value} (hsrc : Src P xT T.z size bytes m x' news w)
  (h1 : (Builtin.firstCells size n (.slice b' n c)).run P w.drew = .ok olds.toArray w.drew) (ho : VRs ι os olds) (hnw : VRs ι ns news) (hof : ∀ v ∈ os, flatV v = true) (hnf : ∀ v ∈ ns, flatV v = true)
  (hol : os.length = n * size) (hnl : ns.length = m * size) (hgt : c < n + m) (h63 : n + m ≤ 9223372036854775807) (hby : (n + m) * bytes ≤ 140737488355328) (hs0 : size ≠ 0) :
  MOk P base lim ι H w (.slice (some ⟨H.len, 0, none⟩) (n + m) 0) (some (.cells (os ++ ns) u true)) (do pure (.value (← Builtin.append_ #[sT, xT] ty #[.slice b' n c, x']))) := by
 have hrun := grow_run (ty := ty) T hsrc h1 hgt h63 hby
 have hge := grownCap_ge w (n + m) c T.e
 have hl : (os ++ ns).length = (n + m) * size := by simp [hol, hnl, Nat.add_mul]
 have hrel := ho.append hnw
 have hsize : (olds.toArray ++ news.toArray ++ Builtin.zeroCells T.z.cells (grownCap w (n + m) c T.e - (n + m))).size = grownCap w (n + m) c T.e * size := by
  have e1 : olds.length + news.length = (n + m) * size := by have := hrel.1; simp only [List.length_append] at this hl; omega
  simp only [Array.size_append, List.size_toArray, size_zeroCells, T.hzs, e1]
  rw [← Nat.add_mul]; congr 1; omega
 refine MOk.row h hn (Le.drew w) rfl (C := olds.toArray ++ news.toArray ++ Builtin.zeroCells T.z.cells (grownCap w (n + m) c T.e - (n + m))) (t := T.e) (f := (0, 0)) (by
  intro v hv; rcases List.mem_append.1 hv with hv | hv
  ·exact hof v hv
  ·exact hnf v hv) hrel ?_ ?_ (.inl rfl) (uK_tyE T.hu0) (by simp [hrun]; rfl) ?_
 ·intro j v hv
  have hj := (List.getElem?_eq_some_iff.1 hv).1
  rw [Array.getElem?_append_left (by simpa using hj)]
  simpa using hv
 ·simp
 ·have := VR.sl (ι := ι.upd H.len ⟨w.heap.size, 0, usz u, (olds.toArray ++ news.toArray ++ Builtin.zeroCells T.z.cells (grownCap w (n + m) c T.e - (n + m))).size⟩) (i := H.len) (o := 0) (n := n + m) (gc := 0) (c := grownCap w (n + m) c T.e) (Inj.upd_same _ _ _) hge (.inl rfl) (by
   rcases T_size hb T with e1 | e1
   ·left; simp [e1, usz]
   ·right; simp only [e1, hsize]; omega)
  simpa using this
theorem gappML_ok (h : HR P base lim ι H.t w) (hb : szK P P.rt.byte = some 1) {sT xT ty : TypeId} {size bytes u : Nat} (T : AppT P sT size bytes u) {s s' x' v : Value} {m : Nat} {news ds : List Value} {new : Option GObj} (hs : VR ι s s') (hsrc : Src P xT T.z size bytes m x' ds w) (hd1 : VRs ι news ds) (hd2 : ∀ v ∈ news, flatV v = true) (hnil : m = 0 → news = []) (hr : gappML size bytes u H s m news = some (v, new)) (hn : new.isSome = true → ι H.len = none) :
  MOk P base lim ι H w v new (do pure (.value (← Builtin.append_ #[sT, xT] ty #[s', x']))) := by
 unfold gappML at hr
 split at hr
 ·rename_i b n gc
  split at hr
  ·rename_i hm0
   subst hm0
   cases hr
   have hds : ds = [] := by
    rw [hnil rfl] at hd1
    exact hd1.nil_inv
   have : ∃ b' c', s' = .slice b' n c' ∧ n ≤ c' := by
    cases hs with
    | lit hl => simp [litFlat] at hl; cases b <;> simp [litFlat] at hl; exact ⟨_, _, rfl, by omega⟩
    | slV => exact ⟨_, _, rfl, by omega⟩
    | sl _ hn => exact ⟨_, _, rfl, hn⟩
   obtain ⟨b', c', rfl, hle⟩ := this
   exact MOk.same h (by simp [none_run (ty := ty) T hsrc hds hle]) hs
  ·rename_i hm0
   split at hr
   ·rename_i hc
    obtain ⟨hc1, hc2, hc3, hc4⟩ := hc
    split at hr
    ·split at hr
     ·rename_i hn0
      cases hr
      subst hn0
      obtain ⟨_, _, rfl⟩ := hs.slN_inv
      have := grow_ok (ty := ty) (x' := x') (b' := none) (n := 0) (c := 0) (os := []) (olds := []) h hb (hn rfl) T hsrc (by simp [Builtin.firstCells]) .nil hd1 (by simp) hd2 (by simp) hc4 (by omega) hc2 (by simpa using hc1) hc3
      simpa using this
     ·cases hr
    ·rename_i a
     split at hr
     ·rename_i hgc
      simp only [Option.bind_eq_some_iff] at hr
      obtain ⟨olds, ho, hr⟩ := hr
      split at hr
      ·rename_i hol
       cases hr
       obtain ⟨dd, e1, e2, e3, _⟩ := gcells_ok (h.le (Le.drew w)) hs ho (by intro a' n' c' e; cases e; exact Nat.le_refl _) (by intro q e; cases e)
       have : ∃ b' c', s' = .slice (some b') n c' ∧ c' < n + m := by
        cases hs with
        | lit hl => simp [litFlat] at hl
        | slV => exact ⟨_, _, rfl, by omega⟩
        | sl _ hn hg => exact ⟨_, _, rfl, by omega⟩
       obtain ⟨b', c', rfl, hlt⟩ := this
       exact grow_ok (ty := ty) (x' := x') h hb (hn rfl) T hsrc (by simpa using e1) e2 hd1 e3 hd2 hol hc4 hlt hc2 hc1 hc3
      ·cases hr
     ·cases hr
   ·cases hr
 ·cases hr
def XOk (P : Program) (xT : TypeId) (size : Nat) : Prop := ∃ d, P.underlying xT = some d ∧ ((∃ e', d = .slice e') ∨ (d = .string ∧ size = 1))
theorem gcells_zero {size : Nat} {x : Value} {news : List Value} (h : gcells size 0 H x = some news) : news = [] := by
 unfold gcells at h
 split at h
 ·cases h; rfl
 ·simp at h; exact h
 ·simp at h; exact h
 ·cases h
theorem gappM_ok (h : HR P base lim ι H.t w) (hb : szK P P.rt.byte = some 1) {sT xT ty : TypeId} {size bytes u : Nat} (T : AppT P sT size bytes u) (hxT : XOk P xT size) {s s' x x' v : Value} {new : Option GObj} (hs : VR ι s s') (hx : VR ι x x') (hr : gappM size bytes u H s x = some (v, new)) (hn : new.isSome = true → ι H.len = none) :
  MOk P base lim ι H w v new (do pure (.value (← Builtin.append_ #[sT, xT] ty #[s', x']))) := by
 have hr : ((gcount x).bind fun m => (gcells size m H x).bind fun news => gappML size bytes u H s m news) = some (v, new) := hr
 simp only [Option.bind_eq_some_iff] at hr
 obtain ⟨m, hm, news, hnews, hr⟩ := hr
 obtain ⟨hlen, ds, hf1, hf2, hd1, hd2⟩ := src_ok h hx hm hnews
 exact gappML_ok h hb T hs (.inl ⟨hxT, hlen, hf1, hf2⟩) hd1 hd2 (by rintro rfl; exact gcells_zero hnews) hr hn
end
end Go.Gh
namespace Go.Gh
set_option linter.unusedVariables false
set_option linter.unusedSimpArgs false
open Go.RowKit
def After (P : Program) (base : Nat) (ι : Inj) (H : GHeap) (w : World) (v : Value) (H' : GHeap) (v' : Value) (w' : World) : Prop :=
 ∃ ι', VR ι' v v' ∧ HR P base H.lim ι' H'.t w' ∧ Below base w w' ∧ ι.le ι' ∧ ∀ i l, ι' i = some l → ι i = some l ∨ (H.len ≤ i ∧ i < H'.len ∧ base ≤ l.block)
def WOk (P : Program) (base : Nat) (ι : Inj) (H : GHeap) (w : World) (v : Value) (H' : GHeap) (s : Sem Next) : Prop :=
 ∃ v' w', (s.run P w = .ok (.value v') w' ∨ (s.run P w = .ok .skip w' ∧ v' = undef)) ∧ After P base ι H w v H' v' w'
section
variable {P : Program} {base : Nat} {ι : Inj} {H : GHeap} {w : World}
theorem mok_w {v : Value} {new : Option GObj} {s : Sem Next} (h : HR P base H.lim ι H.t w) (hm : MOk P base H.lim ι H w v new s) (hn : new.isSome = true → ι H.len = none) : WOk P base ι H w v (H.add new) s := by
 obtain ⟨v', ι', w', h1, h2, h3, h4, h5, h6⟩ := hm
 refine ⟨v', w', .inl h1, ι', h3, h4, h2.mono h.low, ?_, ?_⟩
 ·cases new with
  | none => rw [h5 rfl]; exact Inj.le.refl _
  | some o => obtain ⟨L, rfl, _⟩ := h6 o rfl; exact Inj.le_upd L (hn rfl)
 ·intro i l e
  cases new with
  | none => rw [h5 rfl] at e; exact .inl e
  | some o =>
   obtain ⟨L, rfl, hL⟩ := h6 o rfl
   by_cases hi : i = H.len
   ·subst hi
    rw [Inj.upd_same] at e
    cases e
    exact .inr ⟨Nat.le_refl _, by simp [GHeap.add], Nat.le_trans h.low hL⟩
   ·rw [Inj.upd_ne _ _ hi] at e; exact .inl e
theorem gappL_ok (h : HR P base H.lim ι H.t w) (hb : szK P P.rt.byte = some 1) {sT xT ty : TypeId} {size bytes u : Nat} (T : AppT P sT size bytes u) {s s' x' v : Value} {m : Nat} {news ds : List Value} {H' : GHeap} (hs : VR ι s s') (hsrc : Src P xT T.z size bytes m x' ds w) (hd1 : VRs ι news ds) (hd2 : ∀ v ∈ news, flatV v = true) (hnil : m = 0 → news = []) (hr : gappL size bytes u H s m news = some (v, H')) (hn : H.len < H'.len → ι H.len = none) :
  WOk P base ι H w v H' (do pure (.value (← Builtin.append_ #[sT, xT] ty #[s', x']))) := by
 by_cases hM : ∃ new, gappML size bytes u H s m news = some (v, new) ∧ H' = H.add new
 ·obtain ⟨new, hM, rfl⟩ := hM
  have hn' : new.isSome = true → ι H.len = none := fun hs => hn (by cases new <;> simp [GHeap.add] at hs ⊢)
  exact mok_w h (gappML_ok h hb T hs hsrc hd1 hd2 hnil hM hn') hn'
 ·have hr0 := hr
  unfold gappL at hr
  split at hr
  ·rename_i b n gc
   split at hr
   ·rename_i hm0
    cases hr
    exact absurd ⟨none, by subst hm0; simp [gappML], rfl⟩ hM
   ·rename_i hm0
    split at hr
    ·rename_i hc
     obtain ⟨hc1, hc2, hc3, hc4⟩ := hc
     split at hr
     ·split at hr
      ·rename_i hn0
       cases hr
       exact absurd ⟨some (.cells news u true), by subst hn0; simp [gappML, hm0, hc3, hc4]; exact ⟨by simpa using hc1, by simpa using hc2⟩, rfl⟩ hM
      ·cases hr
     ·rename_i i o
      split at hr
      ·rename_i hgc
       subst hgc
       split at hr
       ·rename_i cs uu hmine
        split at hr
        ·rename_i hcc
         obtain ⟨rfl, hu0, hcc⟩ := hcc
         cases hr
         have hnew : ι H.len = none := hn (by simp [GHeap.add, GHeap.put])
         obtain ⟨hlim, hobj⟩ := mine_some hmine
         have hk := h.kill hobj
         have hput : (H.put i (.dead uu)).t = H.t.set i (.dead (GObj.cells cs uu true).unit) := rfl
         have husz : usz uu = size := (T_size hb T).resolve_left hu0
         cases hs with
         | lit hl => simp [litFlat] at hl
         | slV hg =>
          rename_i y
          have hk' : HR P base H.lim ι (H.put i (.dead uu)).t w := hk
          have := grow_ok (H := H.put i (.dead uu)) (ty := ty) (x' := x') (b' := some y) (n := 0) (c := 0) (os := []) (olds := []) hk' hb hnew T hsrc (by simp [Builtin.firstCells, loadCells, loadCellsFrom]) .nil hd1 (by simp) hd2 (by simp) hc4 (by omega) hc2 hc1 hc3
          have h2 := mok_w (H := H.put i (.dead uu)) hk' this (fun _ => hnew)
          have e0 : (cs.drop o).take (0 * size) = [] := by simp
          rw [e0]
          exact h2
         | sl hl hnc hg hbd =>
          rename_i c l
          have hrow : ∃ olds, (Builtin.firstCells size n (.slice (some ⟨l.block, l.off + o, none⟩) n c)).run P w.drew = .ok olds.toArray w.drew ∧ VRs ι ((cs.drop o).take (n * size)) olds ∧ (∀ v ∈ (cs.drop o).take (n * size), flatV v = true) ∧
            (∀ (j : Nat) v, olds[j]? = some v → w.cell? ⟨l.block, l.off + o + j, none⟩ = some v) := by
           have hcs : H.cs i = some cs := by simp [GHeap.cs, GHeap.obj, hobj]
           obtain ⟨olds, g1, g2, g3, g4⟩ := (h.le (Le.drew w)).row hl hcs o (n * size) hcc
           refine ⟨olds, by simp only [Builtin.firstCells]; exact run_loadCells_row g1 g3, g2, fun v hv => ?_, fun j v hv => ?_⟩
           ·obtain ⟨j, hj⟩ := List.getElem?_of_mem (List.mem_of_mem_drop (List.mem_of_mem_take hv))
            exact (h.cell hl hcs hj).1
           ·have := g3 j v hv
            rw [add_addr] at this
            exact this
          obtain ⟨olds, ho1, ho2, ho3, ho4⟩ := hrow
          have hol : ((cs.drop o).take (n * size)).length = n * size := by simp; omega
          by_cases hroom : n + m ≤ c
          · -- in place
           have hobjR := h.obj i l _ hl hobj
           obtain ⟨hun, hcells, hown⟩ := hobjR
           obtain ⟨hbl, hsz, C, t, f, hheap, hC, hfr, hbyte⟩ := hown rfl hlim
           have hbd' : l.off + o + c * size ≤ l.size := by
            rw [hun, husz] at hbd
            rcases hbd with hbd | hbd
            ·exact absurd hbd hc3
            ·exact hbd
           have hmul : n * size + m * size ≤ c * size := by rw [← Nat.add_mul]; exact Nat.mul_le_mul_right _ hroom
           have hdl : ds.length = m * size := by have := hd1.1; omega
           obtain ⟨r1, r2, r3⟩ := raw_store (P := P) (o := l.off + o + n * size) (vs := ds) hheap hfr (by omega) (hd1.flat hd2)
           obtain ⟨g1, g2, g3, g4, g5, g6⟩ := setCells_heap l.block ds (l.off + o + n * size) w C t f hheap
           have hrun := room_run (ty := ty) T (b := ⟨l.block, l.off + o, none⟩) (n := n) (c := c) hsrc (by rw [add_addr]; exact r1) hroom
           refine ⟨.slice (some ⟨l.block, l.off + o, none⟩) (n + m) c, _, .inl (by simp [hrun]), ι.upd H.len ⟨l.block, l.off + o, usz uu, l.size⟩, ?_, ?_, ⟨g4, g5, g6, by omega, fun k hk => g3 k (by omega)⟩, Inj.le_upd _ hnew, ?_⟩
           ·have := VR.sl (ι := ι.upd H.len ⟨l.block, l.off + o, usz uu, l.size⟩) (i := H.len) (o := 0) (n := n + m) (gc := 0) (c := c) (Inj.upd_same _ _ _) hroom (.inl rfl) (.inr (by simp only [husz]; omega))
            simpa using this
           ·refine hk.new hnew ?_ (by omega) (fun k _ hk => g3 k hk) (by have := h.blk i l hl; simp; omega) hbl ?_
            ·intro j l' o' e1 e2 e3
             have hji : j ≠ i := by rintro rfl; rw [Tr.get_set_same] at e2; cases e2; simp [GObj.live] at e3
             rw [Tr.get_set_ne _ _ (Ne.symm hji)] at e2
             exact h.sep i l _ j l' o' hl hobj e1 e2 (Ne.symm hji) hlim rfl e3
            ·refine ⟨rfl, fun j v hv => ?_, fun _ _ => ⟨hbl, ?_, setA C (l.off + o + n * size) ds, t, f, g1, by rw [setA_size]; exact hC, by rw [setA_size]; exact hfr, hbyte.1, fun h258 => absurd (T.hu0.symm.trans h258) uK_258⟩⟩
             ·rw [List.getElem?_append] at hv
              split at hv
              ·rename_i hj
               obtain ⟨v', q1, q2⟩ := ho2.2 j v hv
               refine ⟨ho3 v (List.mem_of_getElem? hv), v', ?_, q2.mono (Inj.le_upd _ hnew)⟩
               rw [hol] at hj
               show (w.setCells l.block (l.off + o + n * size) ds).cell? ⟨l.block, l.off + o + j, none⟩ = some v'
               rw [r3 _ (.inl (by omega))]
               exact ho4 j v' q1
              ·rename_i hj
               rw [hol] at hj hv
               obtain ⟨v', q1, q2⟩ := hd1.2 _ v hv
               refine ⟨hd2 v (List.mem_of_getElem? hv), v', ?_, q2.mono (Inj.le_upd _ hnew)⟩
               have := r2 _ v' q1
               show (w.setCells l.block (l.off + o + n * size) ds).cell? ⟨l.block, l.off + o + j, none⟩ = some v'
               rw [show l.off + o + j = l.off + o + n * size + (j - n * size) by omega]
               exact this
             ·simp only [List.length_append, hol, hc4]; omega
           ·intro j l' e
            by_cases hj : j = H.len
            ·subst hj
             rw [Inj.upd_same] at e
             cases e
             exact .inr ⟨Nat.le_refl _, by simp [GHeap.add, GHeap.put], hbl⟩
            ·rw [Inj.upd_ne _ _ hj] at e; exact .inl e
          ·have hk' : HR P base H.lim ι (H.put i (.dead uu)).t w := hk
           have := grow_ok (H := H.put i (.dead uu)) (ty := ty) (x' := x') (b' := some ⟨l.block, l.off + o, none⟩) (n := n) (c := c) hk' hb hnew T hsrc ho1 ho2 hd1 ho3 hd2 hol hc4 (by omega) hc2 hc1 hc3
           exact mok_w (H := H.put i (.dead uu)) hk' this (fun _ => hnew)
        ·cases hr
       ·cases hr
      ·rename_i hgc
       split at hr
       ·rename_i hgm
        simp only [Option.bind_eq_some_iff] at hr
        obtain ⟨olds, ho, hr⟩ := hr
        split at hr
        ·rename_i hol
         cases hr
         exact absurd ⟨some (.cells (olds ++ news) u true), by simp [gappML, hm0, hc1, hc2, hc3, hc4, hgc, hgm, ho, hol], rfl⟩ hM
        ·cases hr
       ·rename_i hgm
        split at hr
        ·rename_i cs uu hmine
         split at hr
         ·rename_i hcc
          cases hr
          have hdl : ds.length = news.length := hd1.1.symm
          have hmul : (n + m) * size = n * size + m * size := Nat.add_mul _ _ _
          cases hs with
          | lit hl => simp [litFlat] at hl
          | slV hg => omega
          | sl hl hnc hg hbd =>
           rename_i c l
           obtain ⟨w', r1, r2, r3, r4, r5⟩ := store_ok h hl hmine (o := o + n * size) hd1 hd2 (by omega)
           have hrun := room_run (ty := ty) T (b := ⟨l.block, l.off + o, none⟩) (n := n) (c := c) hsrc (by rw [add_addr, Nat.add_assoc]; exact r1) (by omega)
           rw [show o + n * size + news.length = o + (n + m) * size by omega] at r2
           refine ⟨.slice (some ⟨l.block, l.off + o, none⟩) (n + m) c, w', .inl (by simp [hrun]), ι, .sl hl (by omega) hg hbd, r2, r3, Inj.le.refl _, fun j l' e => .inl e⟩
         ·cases hr
        ·cases hr
     ·cases hr
    ·cases hr
  ·cases hr
theorem gapp_ok (h : HR P base H.lim ι H.t w) (hb : szK P P.rt.byte = some 1) {sT xT ty : TypeId} {size bytes u : Nat} (T : AppT P sT size bytes u) (hxT : XOk P xT size) {s s' x x' v : Value} {H' : GHeap} (hs : VR ι s s') (hx : VR ι x x') (hr : gapp size bytes u H s x = some (v, H')) (hn : H.len < H'.len → ι H.len = none) :
  WOk P base ι H w v H' (do pure (.value (← Builtin.append_ #[sT, xT] ty #[s', x']))) := by
 have hr : ((gcount x).bind fun m => (gcells size m H x).bind fun news => gappL size bytes u H s m news) = some (v, H') := hr
 simp only [Option.bind_eq_some_iff] at hr
 obtain ⟨m, hm, news, hnews, hr⟩ := hr
 obtain ⟨hlen, ds, hf1, hf2, hd1, hd2⟩ := src_ok h hx hm hnews
 exact gappL_ok h hb T hs (.inl ⟨hxT, hlen, hf1, hf2⟩) hd1 hd2 (by rintro rfl; exact gcells_zero hnews) hr hn
theorem gappZ_ok (h : HR P base H.lim ι H.t w) (hb : szK P P.rt.byte = some 1) {sT xT ty : TypeId} {size bytes u : Nat} (T : AppT P sT size bytes u) (hs0 : T.z.cells.size = size) {k : IntKind} (hxT : P.underlying xT = some (.int k)) {s s' x x' v : Value} {H' : GHeap} (hs : VR ι s s') (hx : VR ι x x') (hr : gappZ size bytes u T.z.cells.toList H s x = some (v, H')) (hn : H.len < H'.len → ι H.len = none) :
  WOk P base ι H w v H' (do pure (.value (← Builtin.append_ #[sT, xT] ty #[s', x']))) := by
 unfold gappZ at hr
 split at hr <;> first | (cases hr; done) | skip
 rename_i k' j
 obtain rfl := hx.int_inv
 split at hr
 ·rename_i hc
  obtain ⟨hc1, hc2⟩ := hc
  generalize hm : (IntKind.i64.wrap j).toNat = m at hr
  have hj : IntKind.i64.wrap j = (m : Int) := by omega
  have hz : ∀ v ∈ zeros T.z.cells.toList m, litFlat v = true := fun v hv => T.hlit v (zeros_mem hv)
  have hnews : (zeros T.z.cells.toList m).toArray = Builtin.zeroCells T.z.cells m := by
   by_cases h0 : T.z.cells.toList.length = 0
   ·have e1 : zeros T.z.cells.toList m = [] := List.eq_nil_of_length_eq_zero (by rw [zeros_len, h0, Nat.mul_zero])
    have e2 : T.z.cells.size = 0 := by simpa using h0
    rw [e1, Builtin.zeroCells, e2, Nat.mul_zero]; simp
   ·have := madeZeros T.z T.z.cells.toList rfl m h0
    have hl : T.z.cells.toList.length = T.z.cells.size := by simp
    rw [hl] at this
    rw [← this, Builtin.zeroCells, Array.toArray_toList]
  refine gappL_ok h hb T hs (.inr ⟨k, k', j, hxT, rfl, hj, hnews, ?_⟩) (VRs.lits hz) (fun v hv => flatV_lit (hz v hv)) (by rintro rfl; rfl) hr hn
  rw [hj] at hc2
  have : ((m * bytes : Nat) : Int) ≤ 281474976710656 := by rw [Int.natCast_mul]; exact hc2
  omega
 ·cases hr
theorem gnext_ok (h : HR P base H.lim ι H.t w) {ty : TypeId} {x x' v : Value} {H' : GHeap} (hx : VR ι x x') (hr : gnext H x = some (v, H')) : WOk P base ι H w v H' (do pure (.value (← Instr.next x' true ty))) := by
 unfold gnext at hr
 split at hr
 ·rename_i i
  split at hr
  ·rename_i hlim
   split at hr
   ·rename_i s pos hobj
    have hobj : H.t.get i = some (.iter s pos) := hobj
    obtain ⟨l, hl, rfl⟩ := hx.ptr_inv
    have hR := h.obj i l _ hl hobj
    obtain ⟨hu, ho, hheap, hb⟩ := hR
    rw [ho]
    split at hr
    ·rename_i hp
     cases hr
     have hrun := Lib.run_next_any_at (P := P) w l.block s pos ty hheap hp
     refine ⟨_, _, .inl (by simp [hrun]; exact ⟨rfl, rfl⟩), ι, ?_, ?_, ?_, Inj.le.refl _, fun j l' e => .inl e⟩
     ·refine .tup (by simp) ?_
      intro j h1 h2
      have : j = 0 ∨ j = 1 ∨ j = 2 := by simp at h1; omega
      rcases this with rfl | rfl | rfl <;> exact .lit rfl
     ·refine h.turn hl hobj hlim rfl (by simp [World.iterAt]) (fun k hk => ?_) ⟨hu, ho, ?_, hb⟩
      ·simp only [World.iterAt]; rw [Array.getElem?_setIfInBounds_ne (Ne.symm hk)]
      ·simp only [World.iterAt]; rw [Array.getElem?_setIfInBounds_self_of_lt (h.blk i l hl)]
     ·exact ⟨rfl, rfl, rfl, by simp [World.iterAt], fun k hk => by simp only [World.iterAt]; rw [Array.getElem?_setIfInBounds_ne (by have := hb hlim; omega)]⟩
    ·rename_i hp
     cases hr
     refine ⟨.tuple #[.bool false], w, .inl ?_, ι, .tup rfl ?_, h, Below.refl _ _, Inj.le.refl _, fun j l' e => .inl e⟩
     ·simp only [Instr.next, getObj, Sem.run_bind, Sem.run, hheap, Result.andThen_ok, Nat.zero_add]
      simp [hp, Sem.run, getObj, hheap]
     ·intro j h1 h2
      obtain rfl : j = 0 := by simp at h1; omega
      exact .lit rfl
   ·cases hr
  ·cases hr
 ·cases hr
theorem gcopy_ok (h : HR P base H.lim ι H.t w) {dT xT ty e : TypeId} {size : Nat} (hu : P.underlying dT = some (.slice e)) (hz : szK P e = some size) (hs0 : size ≠ 0) {d d' x x' v : Value} {H' : GHeap} (hd : VR ι d d') (hx : VR ι x x') (hr : gcopy size H d x = some (v, H')) :
  WOk P base ι H w v H' (do pure (.value (← Builtin.copy_ #[dT, xT] ty #[d', x']))) := by
 simp only [gcopy, Option.bind_eq_some_iff] at hr
 obtain ⟨m, hm, hr⟩ := hr
 split at hr
 ·rename_i b n gc
  simp only [Option.bind_eq_some_iff] at hr
  obtain ⟨news, hnews, hr⟩ := hr
  obtain ⟨ds, hf1, hd1, hd2, _⟩ := gcells_ok h hx hnews (by rintro a k c rfl; cases hm; exact Nat.min_le_left _ _) (by rintro q rfl; cases hm; exact Nat.min_le_left _ _)
  have hlen : (Builtin.lenOf x').run P w = .ok m w := by
   cases x with
   | string s => obtain rfl := hx.str_inv; cases hm; simp [Builtin.lenOf]
   | slice a n c =>
    cases hm
    cases a with
    | none => obtain ⟨rfl, rfl, rfl⟩ := hx.slN_inv; simp [Builtin.lenOf]
    | some a => obtain ⟨b', c', rfl⟩ := hx.slS_inv; simp [Builtin.lenOf]
   | _ => simp [gcount] at hm
  have hmin : Nat.min m n = min m n := rfl
  have hszr := szK_run (w := w) hz
  split at hr
  ·rename_i h0
   cases hr
   have hds : ds = [] := by
    have : news = [] := by
     unfold gcells at hnews
     cases x with
     | string q =>
      simp at hnews
      have : min m n = 0 := (Nat.mul_eq_zero.1 h0).resolve_right hs0
      rw [this] at hnews
      simpa using hnews.symm
     | slice a n' c =>
      cases a with
      | none => simpa using hnews.symm
      | some a =>
       obtain ⟨bb, oo, sp⟩ := a
       cases sp <;> simp [h0] at hnews
       exact hnews
     | _ => simp [gcount] at hm
    subst this
    exact hd1.nil_inv
   subst hds
   have : ∃ b' c', d' = .slice b' n c' := by
    cases b with
    | none => obtain ⟨rfl, rfl, rfl⟩ := hd.slN_inv; exact ⟨_, _, rfl⟩
    | some b => obtain ⟨b', c', rfl⟩ := hd.slS_inv; exact ⟨_, _, rfl⟩
   obtain ⟨b', c', rfl⟩ := this
   refine ⟨.int .i64 ((min m n : Nat) : Int), w, .inl ?_, ι, .lit rfl, h, Below.refl _ _, Inj.le.refl _, fun j l' e => .inl e⟩
   cases b' <;> simp [Builtin.copy_, run_underlying hu, hlen, hmin, hszr, hf1, storeCells, goInt]
  ·rename_i h0
   split at hr
   ·rename_i i o
    split at hr
    ·rename_i cs u hmine
     split at hr
     ·rename_i hc
      cases hr
      cases hd with
      | lit hl => simp [litFlat] at hl
      | slV hg => simp at h0
      | sl hl hnc hg hbd =>
       rename_i c l
       obtain ⟨w', r1, r2, r3, r4, r5⟩ := store_ok h hl hmine (o := o) hd1 hd2 hc.1
       refine ⟨.int .i64 ((min m n : Nat) : Int), w', .inl ?_, ι, .lit rfl, r2, r3, Inj.le.refl _, fun j l' e => .inl e⟩
       simp [Builtin.copy_, run_underlying hu, hlen, hmin, hszr, hf1, r1, goInt]
     ·cases hr
    ·cases hr
   ·cases hr
 ·cases hr
end
end Go.Gh
namespace Go.Gh
set_option linter.unusedVariables false
set_option linter.unusedSimpArgs false
open Go.RowKit
section
variable {P : Program} {base lim : Nat} {ι : Inj} {H : GHeap} {w : World} {fr : Fr} {act : Act}
theorem box_ok (h : HR P base lim ι H.t w) (hn : ι H.len = none) {e : TypeId} {v v' : Value} (hv : VR ι v v') (hf : v.cells.all flatV = true) :
  MOk P base lim ι H w (.pointer (some ⟨H.len, 0, none⟩)) (some (.cells v.cells.toList 0 true)) (do pure (.value (← Instr.box e v'))) := by
 have hfl : ∀ u ∈ v.cells.toList, flatV u = true := by
  intro x hx
  obtain ⟨j, hj, rfl⟩ := List.getElem_of_mem hx
  have := (Array.all_eq_true.1 hf) j (by simpa using hj)
  simpa using this
 have hc := hv.cells hfl
 refine MOk.row h hn (Le.refl w) rfl (C := v'.cells) (t := e) (f := (0, 0)) hfl hc (fun j x hx => by simpa using hx) (by simp) (.inl rfl) TyOk.zero (by simp [Instr.box, newVar_run]) upd_ptr
theorem alloc_op_ok (h : HR P base lim ι H.t w) (hn : ι H.len = none) {e : TypeId} {z : Value} (hz : zeroK P e = some z) :
  MOk P base lim ι H w (.pointer (some ⟨H.len, 0, none⟩)) (some (.cells z.cells.toList (if e = gBT P ∧ z.cells.size = 2 then 258 else 0) true)) (do pure (.value (← Instr.alloc e true (.tuple #[])))) := by
 obtain ⟨i, hi, hiz, hl, _⟩ := zeroK_some hz
 refine MOk.row h hn (Le.refl w) rfl (C := z.cells) (t := e) (f := (0, 0)) (fun v hv => flatV_lit (hl v hv)) (VRs.lits hl) (fun j x hx => by simpa using hx) (by simp) (.inl rfl) TyOk.alloc (by simp [Instr.alloc, zeroValue, typeInfo, hi, hiz, newVar_run]) upd_ptr
theorem rng_ok (h : HR P base lim ι H.t w) (hn : ι H.len = none) {t : TypeId} (ht : P.underlying t = some .string) {s : ByteArray} :
  MOk P base lim ι H w (.pointer (some ⟨H.len, 0, none⟩)) (some (.iter s 0)) (do pure (.value (← Instr.range t (.string s)))) := by
 have hle : Le w (w.alloc (.stringIter s 0)) := Le.alloc w _
 refine ⟨.pointer (some ⟨w.heap.size, 0, none⟩), ι.upd H.len ⟨w.heap.size, 0, 0, 0⟩, w.alloc (.stringIter s 0), ?_, hle, upd_ptr, ?_, by simp, fun o _ => ⟨_, rfl, Nat.le_refl _⟩⟩
 ·simp [Instr.range, run_underlying ht]
 ·refine h.fresh hn hle (Nat.le_refl _) (by simp) ⟨rfl, rfl, ?_, fun _ => h.low⟩
  show (w.heap.push _)[w.heap.size]? = _
  simp
theorem buildSl_ok (hfr : FR ι fr act) (h : HR P base lim ι H.t w) (hb : szK P P.rt.byte = some 1) (hn : ι H.len = none) {t : TypeId} {n : Nat} {ps : Array (Nat × Operand)} {z : List Value} {b u : Nat} (hk : mkK P t = some (z, b, u)) (hle : n * z.length ≤ 16777216)
  {asl : List (Nat × Nat × GArg)} {vs : List (Nat × Nat × Value)} {cs : List Value} (hp : cParts P (fun i => some (i * z.length, z.length)) ps.toList = some asl) (hv : evParts fr asl = some vs) (hf : fillL (zeros z n) vs = some cs) (hflat : ∀ v ∈ cs, flatV v = true) (hcl : cs.length = n * z.length) :
  MOk P base lim ι H w (.slice (some ⟨H.len, 0, none⟩) n (n + 1)) (some (.cells cs u true)) (do pure (.value (← Instr.buildSlice t n (ps.map fun (i, x) => (i, act.eval x))))) := by
 obtain ⟨e, i, zv, hu, hi, hz, rfl, hsz, hzl, h0, hlit, rfl⟩ := mkK_some hk
 obtain ⟨h1, h2⟩ := cParts_ok hfr h ps.toList asl vs hp hv
 have hmz := madeZeros zv z hzl n h0
 have hz0 : VRs ι (zeros z n) ((Array.range (n * z.length)).map (zv.cells[· % zv.cells.size]!)).toList := by
  rw [hmz]; exact VRs.lits fun v hv => hlit v (zeros_mem hv)
 obtain ⟨ds', e1, e2⟩ := fill_ok (pl := fun i => some (i * z.length, z.length)) _ vs _ _ cs h1 h2 hz0 hf
 have hds : ds'.size = n * z.length := by have := e2.1; simp at this; omega
 have hrun : (Instr.buildSlice t n (ps.map fun (i, x) => (i, act.eval x))).run P w = .ok (.slice (some ⟨w.heap.size, 0, none⟩) n n) (w.alloc (.cells ds' e)) := by
  have e1' : Instr.fill (fun i => some (i * z.length, z.length)) ((Array.range (n * z.length)).map (zv.cells[· % zv.cells.size]!)) (ps.toList.map fun (i, x) => (i, act.eval x)) = some ds' := e1
  have hnot : ¬ 16777216 < n * z.length := by omega
  have hne : ¬ z = [] := by intro e; subst e; simp at h0
  by_cases hn0 : n = 0
  ·subst hn0
   simp [Instr.buildSlice, run_underlying hu, sizeOf, typeInfo, hi, hsz, newRow]
   rw [show (Array.map (fun x => zv.cells[x % zv.cells.size]!) (Array.range (0 * z.length))) = Array.map (fun _ => (default : Value)) (Array.range 0) by rw [Nat.zero_mul]; apply Array.ext <;> simp] at e1'
   have e6 : Instr.fill (fun i => some (i * z.length, z.length)) (Array.map (fun _ => (default : Value)) (Array.range 0)) (List.map (fun x => (x.fst, act.eval x.snd)) ps.toList) = some ds' := e1'
   rw [e6]
   simp
  ·have hnz : ¬ (n * z.length = 0) := by rw [Nat.mul_eq_zero]; omega
   simp [Instr.buildSlice, run_underlying hu, sizeOf, typeInfo, zeroValue, hi, hsz, hz, hnot, hn0, hne, newRow]
   simp at e1'
   simp [e1']
   intro hh; exact absurd hh hnz
 refine MOk.row h hn (Le.refl w) rfl (C := ds') (t := e) (f := (0, 0)) hflat e2 (fun j x hx => by simpa using hx) (by simp) (.inl rfl) uK_ty (by simp [hrun]; rfl) ?_
 have := VR.sl (ι := ι.upd H.len ⟨w.heap.size, 0, usz (uK P e), ds'.size⟩) (i := H.len) (o := 0) (n := n) (gc := n + 1) (c := n) (Inj.upd_same _ _ _) (Nat.le_refl _) (.inr rfl) (by
  rcases uK_size (P := P) (e := e) (n := i.size) (by simp [szK, hi]) hb with e1 | e1
  ·left; simp [e1, usz]
  ·right; simp only [e1, hds, hsz]; omega)
 simpa using this
theorem fillL_flat : ∀ (qs : List (Nat × Nat × Value)) (cells cs : List Value), fillL cells qs = some cs → (∀ v ∈ cells, flatV v = true) → (∀ v ∈ cs, flatV v = true) ∧ cs.length = cells.length
 | [], cells, cs, h, hf => by cases h; exact ⟨hf, rfl⟩
 | (o, n, v) :: qs, cells, cs, h, hf => by
  simp only [fillL] at h
  split at h
  ·cases h
  ·rename_i hc
   simp only [ne_eq, decide_not, gt_iff_lt, Bool.or_eq_true, Bool.not_eq_eq_eq_not, Bool.not_true, decide_eq_false_iff_not, decide_eq_true_eq, List.all_eq_false, not_or, Decidable.not_not, not_exists, not_and, Nat.not_lt] at hc
   obtain ⟨⟨hc1, hc2⟩, hc3⟩ := hc
   obtain ⟨h1, h2⟩ := fillL_flat qs _ cs h (by
    intro u hu
    rcases List.mem_append.1 hu with hu | hu
    ·rcases List.mem_append.1 hu with hu | hu
     ·exact hf u (List.mem_of_mem_take hu)
     ·simpa using hc3 u hu
    ·exact hf u (List.mem_of_mem_drop hu))
   refine ⟨h1, ?_⟩
   rw [h2]
   simp only [List.length_append, List.length_take, List.length_drop]
   omega
theorem bytes_ok (h : HR P base lim ι H.t w) (hb : szK P P.rt.byte = some 1) (hn : ι H.len = none) {src dst e : TypeId} (hs : P.underlying src = some .string) (hd : P.underlying dst = some (.slice e)) (he : P.underlying e = some (.int .u8)) (hsz : szK P e = some 1) {s : ByteArray} :
  MOk P base lim ι H w (.slice (some ⟨H.len, 0, none⟩) s.size 0) (some (.cells (s.data.toList.map fun b => .int .u8 b.toNat) (uK P e) true)) (do pure (.value (← convert src dst (.string s)))) := by
 have hrun := run_bytes_of_string (P := P) w src dst e s hs hd he
 have hge := grownCap_ge w s.size 0 e
 have hC : (bytesRow s (grownCap w s.size 0 e)).size = grownCap w s.size 0 e := by
  unfold bytesRow
  rw [Array.size_append, Array.size_map, Array.size_replicate]
  have : s.data.size = s.size := rfl
  omega
 refine MOk.row h hn (Le.drew w) rfl (C := bytesRow s (grownCap w s.size 0 e)) (t := e) (f := ((bytesRow s (grownCap w s.size 0 e)).size, (bytesRow s (grownCap w s.size 0 e)).size + 1)) ?_ (VRs.lits ?_) ?_ ?_ (.inr (Nat.le_refl _)) uK_ty (by simp [hrun]; rfl) ?_
 ·intro v hv; obtain ⟨x, _, rfl⟩ := List.mem_map.1 hv; rfl
 ·intro v hv; obtain ⟨x, _, rfl⟩ := List.mem_map.1 hv; rfl
 ·intro j v hv
  have hj := (List.getElem?_eq_some_iff.1 hv).1
  unfold bytesRow
  rw [Array.getElem?_append_left (by simpa using hj)]
  simpa using hv
 ·rw [hC]; simp; exact hge
 ·have := VR.sl (ι := ι.upd H.len ⟨w.heap.size, 0, usz (uK P e), (bytesRow s (grownCap w s.size 0 e)).size⟩) (i := H.len) (o := 0) (n := s.size) (gc := 0) (c := grownCap w s.size 0 e) (Inj.upd_same _ _ _) hge (.inl rfl) (by
   rcases uK_size hsz hb with e1 | e1
   ·left; simp [e1, usz]
   ·right; simp only [e1, hC]; omega)
  simpa using this
theorem runes_ok (h : HR P base lim ι H.t w) (hb : szK P P.rt.byte = some 1) (hn : ι H.len = none) {src dst e : TypeId} (hs : P.underlying src = some .string) (hd : P.underlying dst = some (.slice e)) (he : P.underlying e = some (.int .i32)) (hsz : szK P e = some 1) {s : ByteArray} :
  MOk P base lim ι H w (.slice (some ⟨H.len, 0, none⟩) (Conv.runesFrom s s.size 0 #[]).size 0) (some (.cells (Conv.runesFrom s s.size 0 #[]).toList (uK P e) true)) (do pure (.value (← convert src dst (.string s)))) := by
 have hrunes : ∀ (n i : Nat) (acc : Array Value), (∀ v ∈ acc.toList, litFlat v = true) → ∀ v ∈ (Conv.runesFrom s n i acc).toList, litFlat v = true := by
  intro n
  induction n with
  | zero => intro i acc ha; simpa [Conv.runesFrom] using ha
  | succ n ih =>
   intro i acc ha
   simp only [Conv.runesFrom]
   split
   ·refine ih _ _ ?_
    intro v hv
    simp only [Array.toList_push, List.mem_append, List.mem_singleton] at hv
    rcases hv with hv | rfl
    ·exact ha v hv
    ·rfl
   ·exact ha
 have hr := hrunes s.size 0 #[] (by simp)
 generalize hR : Conv.runesFrom s s.size 0 #[] = R at *
 have hge := grownCap_ge w R.size 0 e
 have hC : (R ++ Array.replicate (grownCap w R.size 0 e - R.size) (Value.int .i32 0)).size = grownCap w R.size 0 e := by simp; omega
 have hrun : (convert src dst (.string s)).run P w = .ok (.slice (some ⟨w.heap.size, 0, none⟩) R.size (grownCap w R.size 0 e)) (w.drew.alloc (.cells (R ++ Array.replicate (grownCap w R.size 0 e - R.size) (.int .i32 0)) e)) := by
  simp [convert, run_underlying hs, run_underlying hd, run_underlying he, Conv.stringToRunes, hR, Question.forced, newRow, grownCap]
 refine MOk.row h hn (Le.drew w) rfl (C := R ++ Array.replicate (grownCap w R.size 0 e - R.size) (Value.int .i32 0)) (t := e) (f := (0, 0)) (fun v hv => flatV_lit (hr v hv)) (VRs.lits hr) ?_ ?_ (.inl rfl) uK_ty (by simp [hrun]; rfl) ?_
 ·intro j v hv
  have hj := (List.getElem?_eq_some_iff.1 hv).1
  rw [Array.getElem?_append_left (by simpa using hj)]
  simpa using hv
 ·rw [hC]; simpa using hge
 ·have := VR.sl (ι := ι.upd H.len ⟨w.heap.size, 0, usz (uK P e), (R ++ Array.replicate (grownCap w R.size 0 e - R.size) (Value.int .i32 0)).size⟩) (i := H.len) (o := 0) (n := R.size) (gc := 0) (c := grownCap w R.size 0 e) (Inj.upd_same _ _ _) hge (.inl rfl) (by
   rcases uK_size hsz hb with e1 | e1
   ·left; simp [e1, usz]
   ·right; simp only [e1, hC]; omega)
  simpa using this
end
end Go.Gh
namespace Go.Gh
set_option linter.unusedVariables false
set_option linter.unusedSimpArgs false
open Go.RowKit
def opRel (P : Program) (op : Op) (g : GOp) : Prop := cOp P op = some g ∨ ∃ size bytes u s x, cOp P op = some (.app size bytes u s x) ∧ g = .appM size bytes u s x
section
variable {P : Program} {base lim : Nat} {ι : Inj} {H : GHeap} {w : World} {fr : Fr} {act : Act}
theorem lift_run {s : Sem Value} {r : Value} {w' : World} (h : s.run P w = .ok r w') : (do pure (Next.value (← s)) : Sem Next).run P w = .ok (.value r) w' := by simp [h]
theorem app_types {sT : TypeId} {size bytes u : Nat} {e : TypeId} {z : Value} (he : elK P sT = some e) (hs : szK P e = some size) (hb : byK P e = some bytes) (hz : zeroK P e = some z) (hzs : z.cells.size = size) (hu : u = uK P e) :
  ∃ T : AppT P sT size bytes u, T.z = z := by
 obtain ⟨i, hi, hiz, hlit, _⟩ := zeroK_some hz
 unfold szK at hs; unfold byK at hb
 rw [hi] at hs hb
 cases hs; cases hb
 unfold elK at he
 split at he
 ·rename_i e' hu'
  cases he
  exact ⟨⟨e, i, z, hu', hi, hiz, rfl, rfl, hzs, hlit, hu⟩, rfl⟩
 ·cases he
theorem cArgs_len : ∀ (xs : List Operand) (asl : List GArg), cArgs P xs = some asl → asl.length = xs.length
 | [], asl, h => by cases h; rfl
 | x :: xs, asl, h => by
  simp only [cArgs] at h
  split at h
  ·rename_i a l ha hl; cases h; simp [cArgs_len xs l hl]
  ·cases h
theorem app_inv {args : Array Operand} {ts : Array TypeId} {size bytes u : Nat} {s x : GArg} (h : cOp P (.call { callee := .builtin .append, args, argTypes := ts }) = some (.app size bytes u s x)) :
  ∃ S X, args = #[S, X] ∧ cArg P S = some s ∧ cArg P X = some x ∧ ∃ sT xT, ts[0]? = some sT ∧ ts[1]? = some xT ∧ Nonempty (AppT P sT size bytes u) ∧ XOk P xT size := by
 simp only [cOp] at h
 cases hl : cArgs P args.toList with
 | none => rw [hl] at h; simp at h
 | some l =>
  rw [hl] at h
  rcases l with _ | ⟨s', _ | ⟨x', _ | ⟨_, _⟩⟩⟩
  ·simp at h
  ·simp at h
  ·have hargs : ∃ S X, args.toList = [S, X] ∧ cArg P S = some s' ∧ cArg P X = some x' := by
    match ha : args.toList, hl with
    | [], hl => simp [cArgs] at hl
    | [S], hl => have := cArgs_len _ _ hl; simp at this
    | [S, X], hl =>
     simp only [cArgs] at hl
     split at hl
     ·rename_i a l ha' hl'
      split at hl'
      ·rename_i b l2 hb' hl2
       cases hl2; cases hl'; cases hl
       exact ⟨S, X, rfl, ha', hb'⟩
      ·cases hl'
     ·cases hl
    | S :: X :: Y :: r, hl =>
     have := cArgs_len _ _ hl
     simp at this
   obtain ⟨S, X, hSX, hS, hX⟩ := hargs
   dsimp only at h
   split at h
   ·rename_i e d he hd
    split at h
    ·rename_i sz by' z e' hsz hby hz
     split at h
     ·rename_i hzs
      cases h
      simp only [Option.bind_eq_some_iff] at he hd
      obtain ⟨sT, h0, he⟩ := he
      obtain ⟨xT, h1, hd⟩ := hd
      exact ⟨S, X, by rw [← hSX], hS, hX, sT, xT, h0, h1, (app_types he hsz hby hz hzs rfl).elim fun T _ => ⟨T⟩, _, hd, .inl ⟨_, rfl⟩⟩
     ·cases h
    ·rename_i by' z hsz hby hz
     split at h
     ·rename_i hzs
      cases h
      simp only [Option.bind_eq_some_iff] at he hd
      obtain ⟨sT, h0, he⟩ := he
      obtain ⟨xT, h1, hd⟩ := hd
      exact ⟨S, X, by rw [← hSX], hS, hX, sT, xT, h0, h1, (app_types he hsz hby hz hzs rfl).elim fun T _ => ⟨T⟩, _, hd, .inr ⟨rfl, rfl⟩⟩
     ·cases h
    ·split at h
     ·simp at h
     ·cases h
    ·cases h
   ·cases h
  ·simp at h
theorem cvK_bytes {s d : TypeId} {u : Nat} (h : cvK P s d = some (.bytes u)) : ∃ e, P.underlying s = some .string ∧ P.underlying d = some (.slice e) ∧ P.underlying e = some (.int .u8) ∧ szK P e = some 1 ∧ u = uK P e := by
 unfold cvK at h
 split at h <;> first | (cases h; done) | skip
 ·rename_i e h1 h2
  split at h <;> (try split at h) <;> cases h
  exact ⟨e, h1, h2, by assumption, by assumption, rfl⟩
 ·split at h <;> cases h
theorem cvK_runes {s d : TypeId} {u : Nat} (h : cvK P s d = some (.runes u)) : ∃ e, P.underlying s = some .string ∧ P.underlying d = some (.slice e) ∧ P.underlying e = some (.int .i32) ∧ szK P e = some 1 ∧ u = uK P e := by
 unfold cvK at h
 split at h <;> first | (cases h; done) | skip
 ·rename_i e h1 h2
  split at h <;> (try split at h) <;> cases h
  exact ⟨e, h1, h2, by assumption, by assumption, rfl⟩
 ·split at h <;> cases h
theorem args_cons {xs : Array Operand} {a : GArg} {r : List GArg} (h : cArgs P xs.toList = some (a :: r)) : ∃ x l, xs.toList = x :: l ∧ cArg P x = some a ∧ cArgs P l = some r := by
 cases hx : xs.toList with
 | nil => rw [hx] at h; cases h
 | cons x l =>
  rw [hx] at h
  simp only [cArgs] at h
  split at h
  ·rename_i b m hb hm
   cases h
   exact ⟨x, l, rfl, hb, hm⟩
  ·cases h
theorem lookupD (ts : Array TypeId) (P : Program) {d : TypeDesc} (h : (ts[0]?).bind P.underlying = some d) : ∃ t, ts[0]? = some t ∧ P.underlying t = some d := by
 simp only [Option.bind_eq_some_iff] at h; exact h
theorem cOp_app {op : Op} {size bytes u : Nat} {s x : GArg} (h : cOp P op = some (.app size bytes u s x)) : ∃ args ts, op = .call { callee := .builtin .append, args := args, argTypes := ts } := by
 cases op with
 | call c =>
  obtain ⟨callee, args, ts⟩ := c
  cases callee with
  | builtin b =>
   cases b with
   | append => exact ⟨_, _, rfl⟩
   | _ => exfalso; simp only [cOp] at h; revert h; (repeat' split) <;> first | contradiction | simp
  | value f => exfalso; simp only [cOp] at h; revert h; (repeat' split) <;> simp
  | invoke r m => simp [cOp] at h
 | _ => exfalso; revert h; simp only [cOp]; (repeat' split) <;> first | contradiction | simp
section
variable {dst : Option Tmp} {ty : TypeId} {pos : String} {after : Array Edge} {guard : Option (Nat × Bool)}
theorem one (h : HR P base lim ι H.t w) {s : Sem Value} {v : Value} (hk : ∃ r', s.run P w = .ok r' w ∧ VR ι v r') : MOk P base lim ι H w v none (do pure (.value (← s))) := by
 obtain ⟨r', h1, h2⟩ := hk
 exact MOk.same h (lift_run h1) h2
theorem glen_ok {ts : Array TypeId} {t ty : TypeId} {q : Bool} (hd : if q then P.underlying t = some .string else ∃ e, P.underlying t = some (.slice e)) (ht : ts[0]? = some t) {x x' r : Value} {l : List Value} (hx : VR ι x x') (hr : glen q x = some r) :
  ∃ r', (Builtin.len_ ts ty (x' :: l).toArray).run P w = .ok r' w ∧ VR ι r r' := by
 unfold glen at hr
 split at hr
 ·rename_i s
  cases hr
  obtain rfl := hx.str_inv
  simp only [if_true] at hd
  exact ⟨_, by simp [Builtin.len_, ht, run_underlying hd, goInt], .lit rfl⟩
 ·rename_i a n c
  cases hr
  simp only [Bool.false_eq_true, if_false] at hd
  obtain ⟨e, hd⟩ := hd
  have : ∃ b c', x' = .slice b n c' := by
   cases a with
   | none => obtain ⟨rfl, rfl, rfl⟩ := hx.slN_inv; exact ⟨_, _, rfl⟩
   | some a => obtain ⟨b, c', rfl⟩ := hx.slS_inv; exact ⟨_, _, rfl⟩
  obtain ⟨b, c', rfl⟩ := this
  exact ⟨_, by simp [Builtin.len_, ht, run_underlying hd, goInt], .lit rfl⟩
 ·cases hr
theorem append_ts {ts : Array TypeId} {sT xT ty : TypeId} {args : Array Value} (h0 : ts[0]? = some sT) (h1 : ts[1]? = some xT) : Builtin.append_ ts ty args = Builtin.append_ #[sT, xT] ty args := by
 unfold Builtin.append_
 rw [h0, h1]
 rfl
theorem gopM_ok {o : Oper} {g : GOp} (hc : opRel P o.op g) {v : Value} {new : Option GObj} (hM : gopM fr H g = some (v, new)) (h : HR P base lim ι H.t w) (hfr : FR ι fr act) (hb : szK P P.rt.byte = some 1) (hn : new.isSome = true → ι H.len = none) :
  MOk P base lim ι H w v new (execOp act.eval o) := by
 obtain ⟨dst, op, ty, pos, after, guard⟩ := o
 rcases hc with hc | ⟨size, bytes, u, s, x, hc, rfl⟩
 case inr =>
  obtain ⟨args, ts, hop⟩ := cOp_app hc
  simp only at hop
  subst hop
  obtain ⟨S, X, rfl, hS, hX, sT, xT, h0, h1, ⟨T⟩, hxT⟩ := app_inv hc
  simp only [gopM, Option.bind_eq_some_iff] at hM
  obtain ⟨sv, hsv, xv, hxv, hM⟩ := hM
  have := gappM_ok (ty := ty) h hb T hxT (cArg_ok hS hsv hfr h) (cArg_ok hX hxv hfr h) hM hn
  have e := append_ts (ty := ty) (args := #[act.eval S, act.eval X]) h0 h1
  have ea : #[S, X].map act.eval = #[act.eval S, act.eval X] := by simp
  rw [← e, ← ea] at this
  exact this
 simp only at hc
 cases op with
 | move x =>
  simp only [cOp, Option.map_eq_some_iff] at hc
  obtain ⟨a, ha, rfl⟩ := hc
  simp only [gopM, Option.map_eq_some_iff, Prod.mk.injEq] at hM
  obtain ⟨u, hu, rfl, rfl⟩ := hM
  exact MOk.same h rfl (cArg_ok ha hu hfr h)
 | assign x =>
  simp only [cOp, Option.map_eq_some_iff] at hc
  obtain ⟨a, ha, rfl⟩ := hc
  simp only [gopM, Option.map_eq_some_iff, Prod.mk.injEq] at hM
  obtain ⟨u, hu, rfl, rfl⟩ := hM
  exact MOk.same h rfl (cArg_ok ha hu hfr h)
 | pick c x y =>
  simp only [cOp] at hc
  split at hc
  ·rename_i a b c' ha hb' hc'
   cases hc
   simp only [gopM] at hM
   split at hM
   ·rename_i t ht
    simp only [Option.map_eq_some_iff, Prod.mk.injEq] at hM
    obtain ⟨u, hu, rfl, rfl⟩ := hM
    have hcv := (cArg_ok ha ht hfr h).bool_inv
    cases t
    ·exact MOk.same h (by show (do pure (Next.value (if ← asBool (act.eval c) then act.eval x else act.eval y)) : Sem Next).run P w = _; rw [hcv]; rfl) (cArg_ok hc' (by simpa using hu) hfr h)
    ·exact MOk.same h (by show (do pure (Next.value (if ← asBool (act.eval c) then act.eval x else act.eval y)) : Sem Next).run P w = _; rw [hcv]; rfl) (cArg_ok hb' (by simpa using hu) hfr h)
   ·cases hM
  ·cases hc
 | alloc e =>
  simp only [cOp, Option.map_eq_some_iff] at hc
  obtain ⟨z, hz, rfl⟩ := hc
  cases hM
  exact alloc_op_ok h (hn rfl) hz
 | box e x =>
  simp only [cOp, Option.map_eq_some_iff] at hc
  obtain ⟨a, ha, rfl⟩ := hc
  simp only [gopM, Option.bind_eq_some_iff] at hM
  obtain ⟨u, hu, hM⟩ := hM
  split at hM
  ·rename_i hf
   cases hM
   exact box_ok h (hn rfl) (cArg_ok ha hu hfr h) hf
  ·cases hM
 | build t ps =>
  simp only [cOp] at hc
  split at hc
  ·rename_i z l hz hl
   split at hc
   ·rename_i hp
    cases hc
    simp only [gopM, Option.bind_eq_some_iff, Option.map_eq_some_iff, Prod.mk.injEq] at hM
    obtain ⟨vs, hvs, cs, hcs, rfl, rfl⟩ := hM
    exact one h (build_ok hfr h hz hp hl hvs hcs)
   ·cases hc
  ·cases hc
 | buildSlice t n ps =>
  simp only [cOp] at hc
  split at hc
  ·rename_i z b u hk
   split at hc
   ·rename_i hle
    simp only [Option.map_eq_some_iff] at hc
    obtain ⟨asl, hp, rfl⟩ := hc
    simp only [gopM, Option.bind_eq_some_iff, Option.map_eq_some_iff, Prod.mk.injEq] at hM
    obtain ⟨vs, hvs, cs, hcs, rfl, rfl⟩ := hM
    have hzf : ∀ v ∈ zeros z n, flatV v = true := fun v hv => flatV_lit ((mkK_some hk).choose_spec.choose_spec.choose_spec.2.2.2.2.2.2.2.1 v (zeros_mem hv))
    obtain ⟨q1, q2⟩ := fillL_flat vs _ cs hcs hzf
    exact buildSl_ok hfr h hb (hn rfl) hk hle hp hvs hcs q1 (by rw [q2, zeros_len])
   ·cases hc
  ·cases hc
 | load t a =>
  simp only [cOp] at hc
  split at hc
  ·rename_i k a' hk ha
   cases hc
   simp only [gopM, Option.bind_eq_some_iff, Option.map_eq_some_iff, Prod.mk.injEq] at hM
   obtain ⟨u, hu, r, hr, rfl, rfl⟩ := hM
   exact one h (gld_ok h hk (cArg_ok ha hu hfr h) hr)
  ·cases hc
 | store t p x =>
  simp only [cOp] at hc
  split at hc
  ·cases hc; cases hM
  ·cases hc
 | nilCheck x =>
  simp only [cOp, Option.map_eq_some_iff] at hc
  obtain ⟨a, ha, rfl⟩ := hc
  simp only [gopM, Option.bind_eq_some_iff] at hM
  obtain ⟨u, hu, hM⟩ := hM
  have hv := cArg_ok ha hu hfr h
  split at hM
  ·cases hM
   obtain ⟨b, hb'⟩ := hv.ptrS_inv
   refine MOk.same h ?_ hv
   unfold execOp
   simp [hb']
  ·cases hM
   obtain ⟨a', b', hb', _, _⟩ := hv.func_inv
   refine MOk.same h ?_ hv
   unfold execOp
   simp [hb']
  ·cases hM
 | binOp bop t x y yt =>
  simp only [cOp] at hc
  split at hc
  ·rename_i a b ha hb'
   cases hc
   simp only [gopM, Option.bind_eq_some_iff, Option.map_eq_some_iff, Prod.mk.injEq] at hM
   obtain ⟨u, hu, u2, hu2, r, hr, rfl, rfl⟩ := hM
   exact one h (gbin_ok (X := x) (Y := y) (cArg_ok ha hu hfr h) (cArg_ok hb' hu2 hfr h) hr)
  ·cases hc
 | unOp uop t x =>
  simp only [cOp, Option.map_eq_some_iff] at hc
  obtain ⟨a, ha, rfl⟩ := hc
  simp only [gopM, Option.bind_eq_some_iff, Option.map_eq_some_iff, Prod.mk.injEq] at hM
  obtain ⟨u, hu, r, hr, rfl, rfl⟩ := hM
  obtain ⟨q1, q2⟩ := gun_ok (P := P) (w := w) (cArg_ok ha hu hfr h) hr
  exact one h ⟨_, q1, q2⟩
 | convert s d x =>
  simp only [cOp] at hc
  split at hc
  ·rename_i r a hr ha
   cases hc
   simp only [gopM, Option.bind_eq_some_iff] at hM
   obtain ⟨u, hu, hM⟩ := hM
   have hv := cArg_ok ha hu hfr h
   cases r with
   | bytes uu =>
    obtain ⟨e, h1, h2, h3, h4, rfl⟩ := cvK_bytes hr
    unfold gconv at hM
    cases u with
    | string q =>
     simp only [Option.some.injEq, Prod.mk.injEq] at hM
     obtain ⟨rfl, rfl⟩ := hM
     have hq := hv.str_inv
     show MOk P base lim ι H w _ _ (do pure (.value (← convert s d (act.eval x))))
     rw [hq]
     exact bytes_ok h hb (hn rfl) h1 h2 h3 h4
    | _ => simp at hM
   | runes uu =>
    obtain ⟨e, h1, h2, h3, h4, rfl⟩ := cvK_runes hr
    unfold gconv at hM
    cases u with
    | string q =>
     simp only [Option.some.injEq, Prod.mk.injEq] at hM
     obtain ⟨rfl, rfl⟩ := hM
     have hq := hv.str_inv
     show MOk P base lim ι H w _ _ (do pure (.value (← convert s d (act.eval x))))
     rw [hq]
     exact runes_ok h hb (hn rfl) h1 h2 h3 h4
    | _ => simp at hM
   | _ =>
    obtain ⟨rfl, q1, q2⟩ := gconv_ok h hr (by intro u e; cases e) (by intro u e; cases e) hv hM
    exact one h ⟨_, q1, q2⟩
  ·split at hc
   ·cases hc; cases hM
   ·cases hc
  ·cases hc
 | makeFunc fn first cap =>
  cases fn with
  | func f =>
   simp only [cOp] at hc
   split at hc
   ·rename_i l m hl hm
    cases hc
    simp only [gopM, Option.bind_eq_some_iff, Option.map_eq_some_iff, Prod.mk.injEq] at hM
    obtain ⟨l', hl', m', hm', rfl, rfl⟩ := hM
    have q1 := cArgs_ok hfr h _ _ _ hl hl'
    have q2 := cArgs_ok hfr h _ _ _ hm hm'
    refine one h ⟨.func (.func f) (first.map act.eval) (cap.map act.eval), rfl, ?_⟩
    have e1 : first.map act.eval = (first.toList.map act.eval).toArray := by apply Array.ext'; simp
    have e2 : cap.map act.eval = (cap.toList.map act.eval).toArray := by apply Array.ext'; simp
    rw [e1, e2]
    exact .func (by simpa using q1.1) q1.arr (by simpa using q2.1) q2.arr
   ·cases hc
  | _ => simp [cOp] at hc
 | makeSlice t l c =>
  simp only [cOp] at hc
  split at hc
  ·rename_i z b u a a2 hk ha ha2
   cases hc
   simp only [gopM, Option.bind_eq_some_iff] at hM
   obtain ⟨lv, hlv, cv, hcv, hM⟩ := hM
   have hsome : new.isSome = true := by
    unfold gmake at hM
    split at hM
    ·split at hM <;> cases hM; rfl
    ·cases hM
   exact gmake_ok h hb hk (cArg_ok ha hlv hfr h) (cArg_ok ha2 hcv hfr h) hM (hn hsome)
  ·cases hc
 | slice t x lo hi mx =>
  simp only [cOp] at hc
  split at hc
  ·rename_i r a lo' hi' mx' hr ha hlo hhi hmx
   cases hc
   simp only [gopM, Option.bind_eq_some_iff, Option.map_eq_some_iff, Prod.mk.injEq] at hM
   obtain ⟨u, hu, l, hl, hh, hhh, m, hm, r', hr', rfl, rfl⟩ := hM
   exact one h (gslice_ok h hr (cArg_ok ha hu hfr h) (cOpt_ok hfr h hlo hl) (cOpt_ok hfr h hhi hhh) (cOpt_ok hfr h hmx hm) hr')
  ·cases hc
 | fieldAddr s x f =>
  simp only [cOp] at hc
  split at hc
  ·rename_i n a hk ha
   cases hc
   simp only [gopM, Option.bind_eq_some_iff, Option.map_eq_some_iff, Prod.mk.injEq] at hM
   obtain ⟨u, hu, r, hr, rfl, rfl⟩ := hM
   obtain ⟨b, o', hbo, hvr⟩ := gadd_ok (cArg_ok ha hu hfr h) hr
   refine one h ⟨_, ?_, hvr⟩
   rw [hbo]
   exact faK_ok hk
  ·cases hc
 | field t x f =>
  simp only [cOp] at hc
  split at hc
  ·rename_i off k a hk ha
   cases hc
   simp only [gopM, Option.bind_eq_some_iff, Option.map_eq_some_iff, Prod.mk.injEq] at hM
   obtain ⟨u, hu, r, hr, rfl, rfl⟩ := hM
   have hv := cArg_ok ha hu hfr h
   unfold fldK at hk
   split at hk
   ·rename_i fs hfs
    split at hk
    ·rename_i fd hfd
     simp only [Option.map_eq_some_iff, Prod.mk.injEq] at hk
     obtain ⟨k', hk', rfl, rfl⟩ := hk
     cases u with
     | agg cs =>
      obtain ⟨ds, hds, hrel⟩ := hv.agg_inv
      obtain ⟨r', q1, q2⟩ := gpart_ok (w := w) hk' hrel hr
      refine one h ⟨r', ?_, q2⟩
      rw [hds]
      simp [Instr.field, run_underlying hfs, hfd, asAgg, q1]
     | _ => simp [gpart] at hr
    ·cases hk
   ·cases hk
  ·cases hc
 | indexAddr t x i =>
  simp only [cOp] at hc
  split at hc
  ·rename_i len n a b hk ha hb'
   cases hc
   simp only [gopM, Option.bind_eq_some_iff, Option.map_eq_some_iff, Prod.mk.injEq] at hM
   obtain ⟨u, hu, u2, hu2, r, hr, rfl, rfl⟩ := hM
   exact one h (gia_ok (cArg_ok ha hu hfr h) (cArg_ok hb' hu2 hfr h) hr hk)
  ·cases hc
 | index t x i =>
  simp only [cOp] at hc
  split at hc
  ·rename_i q a b hk ha hb'
   cases hc
   simp only [gopM, Option.bind_eq_some_iff, Option.map_eq_some_iff, Prod.mk.injEq] at hM
   obtain ⟨u, hu, u2, hu2, r, hr, rfl, rfl⟩ := hM
   exact one h (gix_ok (cArg_ok ha hu hfr h) (cArg_ok hb' hu2 hfr h) hr hk)
  ·cases hc
 | range t x =>
  simp only [cOp] at hc
  split at hc
  ·rename_i ht
   simp only [Option.map_eq_some_iff] at hc
   obtain ⟨a, ha, rfl⟩ := hc
   simp only [gopM, Option.bind_eq_some_iff] at hM
   obtain ⟨u, hu, hM⟩ := hM
   have hv := cArg_ok ha hu hfr h
   split at hM
   ·cases hM
    have hq := hv.str_inv
    show MOk P base lim ι H w _ _ (do pure (.value (← Instr.range t (act.eval x))))
    rw [hq]
    exact rng_ok h (hn rfl) ht
   ·cases hM
  ·cases hc
 | next x b =>
  cases b with
  | true =>
   simp only [cOp, Option.map_eq_some_iff] at hc
   obtain ⟨a, ha, rfl⟩ := hc
   cases hM
  | false => simp [cOp] at hc
 | extract x k =>
  simp only [cOp, Option.map_eq_some_iff] at hc
  obtain ⟨a, ha, rfl⟩ := hc
  simp only [gopM, Option.bind_eq_some_iff] at hM
  obtain ⟨u, hu, hM⟩ := hM
  have hv := cArg_ok ha hu hfr h
  split at hM
  ·rename_i vs
   simp only [Option.map_eq_some_iff, Prod.mk.injEq] at hM
   obtain ⟨r, hr, rfl, rfl⟩ := hM
   obtain ⟨ds, hds, hrel⟩ := hv.tup_inv
   obtain ⟨r', q1, q2⟩ := hrel.2 k r (by simpa using hr)
   refine one h ⟨r', ?_, q2⟩
   rw [hds]
   have : ds[k]? = some r' := by simpa using q1
   simp [Instr.extract, this]
  ·cases hM
 | call c =>
  obtain ⟨callee, args, ts⟩ := c
  cases callee with
  | value f =>
   simp only [cOp] at hc
   split at hc
   ·cases hc; cases hM
   ·cases hc
  | invoke r m => simp [cOp] at hc
  | builtin b =>
   cases b with
   | cap =>
    simp only [cOp] at hc
    split at hc <;> first | contradiction | skip
    rename_i X hl
    obtain ⟨x, r, hx, hX, hr0⟩ := args_cons hl
    split at hc
    ·rename_i e hd
     cases hc
     obtain ⟨t, ht, hd⟩ := lookupD ts P hd
     simp only [gopM, Option.bind_eq_some_iff, Option.map_eq_some_iff, Prod.mk.injEq] at hM
     obtain ⟨u, hu, r', hr', rfl, rfl⟩ := hM
     have hv := cArg_ok hX hu hfr h
     have hargs : args.map act.eval = (act.eval x :: r.map act.eval).toArray := by apply Array.ext'; simp [hx]
     refine one h (s := Builtin.cap_ ts ty (args.map act.eval)) ⟨r', ?_, ?_⟩
     ·unfold gcap at hr'
      split at hr'
      ·cases hr'
       obtain ⟨_, _, hq⟩ := hv.slN_inv
       rw [hargs, hq]
       simp [Builtin.cap_, ht, run_underlying hd, goInt]
      ·rename_i a n c _
       cases hr'
       rw [hargs]
       cases a with
       | none => obtain ⟨_, hq, _⟩ := hv.slN_inv; cases hq
       | some a =>
        have : ∃ b, act.eval x = .slice (some b) n c := by
         generalize act.eval x = q at hv
         cases hv with
         | lit hl => simp [litFlat] at hl
         | slV hg => obtain rfl : c = 0 := by omega
                     exact ⟨_, rfl⟩
         | @sl i o n gc c' l hl hn hg hb =>
          obtain rfl : c' = c := by omega
          exact ⟨_, rfl⟩
        obtain ⟨b, hq⟩ := this
        rw [hq]
        simp [Builtin.cap_, ht, run_underlying hd, goInt]
      ·cases hr'
     ·unfold gcap at hr'
      split at hr' <;> cases hr' <;> exact .lit rfl
    ·cases hc
   | len =>
    simp only [cOp] at hc
    split at hc <;> first | contradiction | skip
    rename_i X hl
    obtain ⟨x, r, hx, hX, hr0⟩ := args_cons hl
    have hargs : args.map act.eval = (act.eval x :: r.map act.eval).toArray := by apply Array.ext'; simp [hx]
    split at hc
    ·rename_i hd
     cases hc
     obtain ⟨t, ht, hd⟩ := lookupD ts P hd
     simp only [gopM, Option.bind_eq_some_iff, Option.map_eq_some_iff, Prod.mk.injEq] at hM
     obtain ⟨u, hu, r', hr', rfl, rfl⟩ := hM
     have hv := cArg_ok hX hu hfr h
     refine one h (s := Builtin.len_ ts ty (args.map act.eval)) ?_
     rw [hargs]
     exact glen_ok (by simpa using hd) ht hv hr'
    ·rename_i e hd
     cases hc
     obtain ⟨t, ht, hd⟩ := lookupD ts P hd
     simp only [gopM, Option.bind_eq_some_iff, Option.map_eq_some_iff, Prod.mk.injEq] at hM
     obtain ⟨u, hu, r', hr', rfl, rfl⟩ := hM
     have hv := cArg_ok hX hu hfr h
     refine one h (s := Builtin.len_ ts ty (args.map act.eval)) ?_
     rw [hargs]
     exact glen_ok (by simpa using ⟨e, hd⟩) ht hv hr'
    ·rename_i n e hd
     cases hc
     obtain ⟨t, ht, hd⟩ := lookupD ts P hd
     cases hM
     refine one h (s := Builtin.len_ ts ty (args.map act.eval)) ⟨.int .i64 n, ?_, .lit rfl⟩
     rw [hargs]
     simp [Builtin.len_, ht, run_underlying hd, goInt]
    ·cases hc
   | min =>
    simp only [cOp] at hc
    split at hc <;> first | contradiction | skip
    rename_i X R hl
    cases hc
    obtain ⟨x, r, hx, hX, hR⟩ := args_cons hl
    have hargs : args.map act.eval = (act.eval x :: r.map act.eval).toArray := by apply Array.ext'; simp [hx]
    simp only [gopM, Option.bind_eq_some_iff, Option.map_eq_some_iff, Prod.mk.injEq] at hM
    obtain ⟨u, hu, l, hl', r', hr', rfl, rfl⟩ := hM
    obtain ⟨q, q1, q2⟩ := gfold_ok (P := P) (w := w) (f := Builtin.min2) (fun _ _ _ _ _ a b c => gmin2_ok a b c) l _ u _ r' (cArgs_ok hfr h _ _ _ hR hl') (cArg_ok hX hu hfr h) hr'
    refine one h (s := Builtin.min_ ts ty (args.map act.eval)) ⟨q, ?_, q2⟩
    rw [hargs]
    simpa [Builtin.min_] using q1
   | max =>
    simp only [cOp] at hc
    split at hc <;> first | contradiction | skip
    rename_i X R hl
    cases hc
    obtain ⟨x, r, hx, hX, hR⟩ := args_cons hl
    have hargs : args.map act.eval = (act.eval x :: r.map act.eval).toArray := by apply Array.ext'; simp [hx]
    simp only [gopM, Option.bind_eq_some_iff, Option.map_eq_some_iff, Prod.mk.injEq] at hM
    obtain ⟨u, hu, l, hl', r', hr', rfl, rfl⟩ := hM
    obtain ⟨q, q1, q2⟩ := gfold_ok (P := P) (w := w) (f := Builtin.max2) (fun _ _ _ _ _ a b c => gmax2_ok a b c) l _ u _ r' (cArgs_ok hfr h _ _ _ hR hl') (cArg_ok hX hu hfr h) hr'
    refine one h (s := Builtin.max_ ts ty (args.map act.eval)) ⟨q, ?_, q2⟩
    rw [hargs]
    simpa [Builtin.max_] using q1
   | append =>
    simp only [cOp] at hc
    exfalso
    revert hM
    revert hc
    (repeat' split) <;> first | contradiction | (intro hc; cases hc; simp [gopM]; done) | (intro hc; cases hc; done)
   | copy =>
    simp only [cOp] at hc
    exfalso
    revert hM
    revert hc
    (repeat' split) <;> first | contradiction | (intro hc; cases hc; simp [gopM]; done) | (intro hc; cases hc; done)
   | _ =>
    simp only [cOp] at hc
    exfalso
    revert hc
    (repeat' split) <;> first | contradiction | simp
 | _ => simp [cOp] at hc
end
end
end Go.Gh
namespace Go.Gh
set_option linter.unusedVariables false
set_option linter.unusedSimpArgs false
open Go.RowKit
section
variable {P : Program} {base : Nat} {ι : Inj} {H H' : GHeap} {w : World} {fr : Fr} {act : Act}
theorem args_two {xs : Array Operand} {a b : GArg} (h : cArgs P xs.toList = some [a, b]) : ∃ x y, xs = #[x, y] ∧ cArg P x = some a ∧ cArg P y = some b := by
 obtain ⟨x, l, hx, ha, hl⟩ := args_cons h
 cases l with
 | nil => cases hl
 | cons y l2 =>
  simp only [cArgs] at hl
  split at hl
  ·rename_i b' m hb hm
   cases hl
   cases l2 with
   | nil => exact ⟨x, y, by apply Array.ext'; simpa using hx, ha, hb⟩
   | cons z l3 => have := cArgs_len _ _ hm; simp at this
  ·cases hl
theorem gkeep_ok (h : HR P base H.lim ι H.t w) {s d : TypeId} (hk : keepK P s d = true) {x x' v : Value} (hx : VR ι x x') (hr : gkeep H x = some (v, H')) :
  WOk P base ι H w v H' (do pure (.value (← convert s d x'))) := by
 unfold keepK at hk
 simp only [Bool.and_eq_true, beq_iff_eq] at hk
 obtain ⟨rfl, hk⟩ := hk
 split at hk <;> first | (cases hk; done) | skip
 rename_i e hu
 split at hk <;> first | (cases hk; done) | skip
 rename_i he
 unfold gkeep at hr
 split at hr <;> first | (cases hr; done) | skip
 rename_i i o n c
 cases hm : H.mine i with
 | none => rw [hm] at hr; cases hr
 | some m =>
 obtain ⟨cs, u⟩ := m
 rw [hm] at hr
 cases hr
 cases hx with
 | lit hl => simp [litFlat] at hl
 | sl hl hnc hg hb =>
  rename_i c' l
  obtain ⟨hlim, hobj⟩ := mine_some hm
  obtain ⟨hu1, hcells, hown⟩ := h.obj i l _ hl hobj
  obtain ⟨hb1, hsz, C, t, f, hheap, hC, hfr, hbyte⟩ := hown rfl hlim
  obtain ⟨f1, f2⟩ := f
  have hrun : (convert s s (.slice (some ⟨l.block, l.off + o, none⟩) (n + 1) c')).run P w = .ok (.slice (some ⟨l.block, l.off + o, none⟩) (n + 1) c') (w.freeze ⟨l.block, C.size, none⟩ 1) := by
   have hm : (markStringish ⟨l.block, l.off + o, none⟩).run P w = .ok () (w.freeze ⟨l.block, C.size, none⟩ 1) := by
    show (match w.shape? l.block with | some (_, n) => freeze { block := l.block, off := n } 1 | _ => pure () : Sem Unit).run P w = _
    simp only [World.shape?, hheap]
    rfl
   simp [convert, run_underlying hu, run_underlying he, hm]
  have hfz : (w.freeze ⟨l.block, C.size, none⟩ 1).heap[l.block]? = some (.cells C t (if f1 == f2 then (C.size, C.size + 1) else (min f1 C.size, max f2 (C.size + 1)))) := by
   simp [World.freeze, Array.getElem?_modify, hheap]
  have hne : ∀ k, k ≠ l.block → (w.freeze ⟨l.block, C.size, none⟩ 1).heap[k]? = w.heap[k]? := fun k hk => by
   simp [World.freeze, Array.getElem?_modify, Ne.symm hk]
  have hsize : (w.freeze ⟨l.block, C.size, none⟩ 1).heap.size = w.heap.size := by simp [World.freeze]
  have hcell : ∀ j, (w.freeze ⟨l.block, C.size, none⟩ 1).cell? ⟨l.block, j, none⟩ = w.cell? ⟨l.block, j, none⟩ := fun j => by
   simp [World.cell?, hfz, hheap]
  have hR := h.turn (w' := w.freeze ⟨l.block, C.size, none⟩ 1) (o' := .cells cs u true) hl hobj hlim rfl hsize hne ⟨hu1, fun j v hv => by
   obtain ⟨q1, v', q2, q3⟩ := hcells j v hv
   exact ⟨q1, v', by rw [hcell]; exact q2, q3⟩, fun _ _ => ⟨hb1, hsz, C, t, _, hfz, hC, by
   by_cases hf : f1 = f2
   ·simp [hf]
   ·have : C.size ≤ f1 := hfr.resolve_left hf
    simp only [beq_iff_eq, hf, if_false]
    right
    show C.size ≤ min f1 C.size
    omega, hbyte⟩⟩
  refine ⟨_, w.freeze ⟨l.block, C.size, none⟩ 1, .inl (by simp [hrun]), ι, .sl hl hnc hg hb, ?_, ⟨rfl, rfl, rfl, by rw [hsize]; exact Nat.le_refl _, fun k hk => hne k (by omega)⟩, Inj.le.refl _, fun j l' e => .inl e⟩
  have hget : ∀ j, (H.t.set i (.cells cs u true)).get j = H.t.get j := fun j => by
   rw [Tr.get_set]
   split
   ·rename_i hij; subst hij; exact hobj.symm
   ·rfl
  refine ⟨hR.low, hR.blk, fun i l o e f => hR.obj i l o e (by rw [hget]; exact f), fun a la oa b lb ob e f e' f' => hR.sep a la oa b lb ob e (by rw [hget]; exact f) e' (by rw [hget]; exact f'), hR.glob, hR.door⟩
theorem gopW_ok {o : Oper} {g : GOp} (hc : cOp P o.op = some g) {v : Value} (hW : gopW fr H g = some (v, H')) (h : HR P base H.lim ι H.t w) (hfr : FR ι fr act) (hb : szK P P.rt.byte = some 1) (hn : H.len < H'.len → ι H.len = none) :
  WOk P base ι H w v H' (execOp act.eval o) := by
 obtain ⟨dst, op, ty, pos, after, guard⟩ := o
 simp only at hc
 cases g with
 | store k p x =>
  have hop : ∃ t P' X, op = .store t P' X := by
   cases op <;> first
    | exact ⟨_, _, _, rfl⟩
    | (exfalso; revert hc; simp only [cOp]; (repeat' split) <;> first | contradiction | simp)
  obtain ⟨t, p', x', rfl⟩ := hop
  simp only [cOp] at hc
  split at hc
  ·rename_i k' a b hk ha hb'
   cases hc
   simp only [gopW, Option.bind_eq_some_iff, Option.map_eq_some_iff, Prod.mk.injEq] at hW
   obtain ⟨pv, hpv, xv, hxv, H2, hst, rfl, rfl⟩ := hW
   obtain ⟨w', i, l, r1, r2, r3, r4, r5, r6, _⟩ := gst_ok h hk (cArg_ok ha hpv hfr h) (cArg_ok hb' hxv hfr h) hst
   refine ⟨undef, w', .inr ⟨?_, rfl⟩, ι, .tup rfl (by simp), r2, r5, Inj.le.refl _, fun j l' e => .inl e⟩
   show (do Instr.storeAt t (act.eval p') (act.eval x'); pure Next.skip : Sem Next).run P w = _
   simp [r1]
  ·cases hc
 | next x =>
  have hop : ∃ X, op = .next X true := by
   cases op <;> first
    | (rename_i b; cases b <;> first | exact ⟨_, rfl⟩ | (simp [cOp] at hc; done))
    | (exfalso; revert hc; simp only [cOp]; (repeat' split) <;> first | contradiction | simp)
  obtain ⟨X, rfl⟩ := hop
  simp only [cOp, Option.map_eq_some_iff, GOp.next.injEq] at hc
  obtain ⟨a, ha, rfl⟩ := hc
  simp only [gopW, Option.bind_eq_some_iff] at hW
  obtain ⟨xv, hxv, hW⟩ := hW
  exact gnext_ok (ty := ty) h (cArg_ok ha hxv hfr h) hW
 | app size bytes u s x =>
  obtain ⟨args, ts, rfl⟩ := cOp_app hc
  obtain ⟨S, X, rfl, hS, hX, sT, xT, h0, h1, ⟨T⟩, hxT⟩ := app_inv hc
  simp only [gopW, Option.bind_eq_some_iff] at hW
  obtain ⟨sv, hsv, xv, hxv, hW⟩ := hW
  have := gapp_ok (ty := ty) h hb T hxT (cArg_ok hS hsv hfr h) (cArg_ok hX hxv hfr h) hW hn
  have e := append_ts (ty := ty) (args := #[act.eval S, act.eval X]) h0 h1
  have ea : #[S, X].map act.eval = #[act.eval S, act.eval X] := by simp
  rw [← e, ← ea] at this
  exact this
 | copy size d x =>
  have hop : ∃ args ts, op = .call { callee := .builtin .copy, args := args, argTypes := ts } := by
   cases op with
   | call c =>
    obtain ⟨callee, args, ts⟩ := c
    cases callee with
    | builtin b =>
     cases b with
     | copy => exact ⟨_, _, rfl⟩
     | _ => exfalso; simp only [cOp] at hc; revert hc; (repeat' split) <;> first | contradiction | simp
    | value f => exfalso; simp only [cOp] at hc; revert hc; (repeat' split) <;> simp
    | invoke r m => simp [cOp] at hc
   | _ => exfalso; revert hc; simp only [cOp]; (repeat' split) <;> first | contradiction | simp
  obtain ⟨args, ts, rfl⟩ := hop
  simp only [cOp] at hc
  split at hc <;> first | contradiction | skip
  rename_i d' x' hl
  obtain ⟨D, X, rfl, hD, hX⟩ := args_two hl
  split at hc
  ·rename_i n hz
   cases hc
   simp only [Option.bind_eq_some_iff] at hz
   obtain ⟨e, ⟨dT, hdT, he⟩, hz⟩ := hz
   have hu : P.underlying dT = some (.slice e) := by
    unfold elK at he
    split at he
    ·rename_i e' hu; cases he; exact hu
    ·cases he
   simp only [gopW, Option.bind_eq_some_iff] at hW
   obtain ⟨dv, hdv, xv, hxv, hW⟩ := hW
   have := gcopy_ok (xT := dT) (ty := ty) h hu hz (by omega) (cArg_ok hD hdv hfr h) (cArg_ok hX hxv hfr h) hW
   have e1 : Builtin.copy_ ts ty #[act.eval D, act.eval X] = Builtin.copy_ #[dT, dT] ty #[act.eval D, act.eval X] := by
    unfold Builtin.copy_; rw [hdT]; rfl
   have ea : #[D, X].map act.eval = #[act.eval D, act.eval X] := by simp
   rw [← e1, ← ea] at this
   exact this
  ·cases hc
 | appZ size bytes u z s x =>
  have hop : ∃ args ts, op = .call { callee := .builtin .append, args := args, argTypes := ts } := by
   cases op with
   | call c =>
    obtain ⟨callee, args, ts⟩ := c
    cases callee with
    | builtin b =>
     cases b with
     | append => exact ⟨_, _, rfl⟩
     | _ => exfalso; simp only [cOp] at hc; revert hc; (repeat' split) <;> first | contradiction | simp
    | value f => exfalso; simp only [cOp] at hc; revert hc; (repeat' split) <;> simp
    | invoke r m => simp [cOp] at hc
   | _ => exfalso; revert hc; simp only [cOp]; (repeat' split) <;> first | contradiction | simp
  obtain ⟨args, ts, rfl⟩ := hop
  simp only [cOp] at hc
  split at hc <;> first | contradiction | skip
  rename_i s' x' hl
  obtain ⟨S, X, rfl, hS, hX⟩ := args_two hl
  split at hc <;> first | contradiction | skip
  rename_i e d he hd
  simp only [Option.bind_eq_some_iff] at he hd
  obtain ⟨sT, h0, he⟩ := he
  obtain ⟨xT, h1, hd⟩ := hd
  split at hc
  ·split at hc <;> cases hc
  ·split at hc <;> cases hc
  ·rename_i sz by' zv k hsz hby hz
   split at hc
   ·rename_i hzs
    cases hc
    obtain ⟨T, rfl⟩ := app_types he hsz hby hz hzs rfl
    simp only [gopW, Option.bind_eq_some_iff] at hW
    obtain ⟨sv, hsv, xv, hxv, hW⟩ := hW
    have := gappZ_ok (ty := ty) h hb T hzs hd (cArg_ok hS hsv hfr h) (cArg_ok hX hxv hfr h) hW hn
    have e := append_ts (ty := ty) (args := #[act.eval S, act.eval X]) h0 h1
    have ea : #[S, X].map act.eval = #[act.eval S, act.eval X] := by simp
    rw [← e, ← ea] at this
    exact this
   ·cases hc
  ·cases hc
 | keep x =>
  have hop : ∃ s d X, op = .convert s d X := by
   cases op <;> first
    | exact ⟨_, _, _, rfl⟩
    | (exfalso; revert hc; simp only [cOp]; (repeat' split) <;> first | contradiction | simp)
  obtain ⟨s, d, X, rfl⟩ := hop
  simp only [cOp] at hc
  split at hc <;> first | (cases hc; done) | skip
  rename_i a _ ha
  split at hc
  ·rename_i hk
   cases hc
   simp only [gopW, Option.bind_eq_some_iff] at hW
   obtain ⟨xv, hxv, hW⟩ := hW
   exact gkeep_ok h hk (cArg_ok ha hxv hfr h) hW
  ·cases hc
 | _ => cases hW
def GHeap.wf (H : GHeap) : Prop := H.lim ≤ H.len ∧ ∀ i, (H.obj i).isSome = true ↔ i < H.len
structure Fwd (H H' : GHeap) : Prop where
 lim : H'.lim = H.lim
 len : H.len ≤ H'.len
 low : ∀ i, i < H.lim → H'.obj i = H.obj i
 unit : ∀ i u, H.unit i = some u → H'.unit i = some u
 wf : H.wf → H'.wf
theorem Fwd.refl (H : GHeap) : Fwd H H := ⟨rfl, Nat.le_refl _, fun _ _ => rfl, fun _ _ h => h, id⟩
theorem Fwd.trans {A B C : GHeap} (h : Fwd A B) (k : Fwd B C) : Fwd A C :=
 ⟨k.lim.trans h.lim, Nat.le_trans h.len k.len, fun i hi => (k.low i (by rw [h.lim]; exact hi)).trans (h.low i hi), fun i u e => k.unit i u (h.unit i u e), fun e => k.wf (h.wf e)⟩
theorem obj_put (H : GHeap) (i j : Nat) (o : GObj) : (H.put i o).obj j = if i = j then some o else H.obj j := Tr.get_set _ _ _ _
theorem obj_add (H : GHeap) (o : GObj) (j : Nat) : (H.add (some o)).obj j = if H.len = j then some o else H.obj j := Tr.get_set _ _ _ _
theorem Fwd.add (hw : H.wf) (new : Option GObj) : Fwd H (H.add new) := by
 cases new with
 | none => exact Fwd.refl H
 | some o =>
  refine ⟨rfl, by simp [GHeap.add], fun i hi => ?_, fun i u e => ?_, fun _ => ⟨by have := hw.1; simp [GHeap.add]; omega, fun i => ?_⟩⟩
  ·rw [obj_add, if_neg (by have := hw.1; omega)]
  ·unfold GHeap.unit at e ⊢
   rw [obj_add]
   by_cases hi : H.len = i
   ·subst hi
    have := (hw.2 H.len).1
    cases ho : H.obj H.len with
    | none => rw [ho] at e; cases e
    | some o' => rw [ho] at this; have := this rfl; omega
   ·rw [if_neg hi]; exact e
  ·rw [obj_add]
   show _ ↔ i < H.len + 1
   by_cases hi : H.len = i
   ·rw [if_pos hi]; simp; omega
   ·rw [if_neg hi, hw.2 i]; omega
theorem Fwd.put (hw : H.wf) {i : Nat} {o o' : GObj} (hlim : H.lim ≤ i) (ho : H.obj i = some o) (hu : o'.unit = o.unit) : Fwd H (H.put i o') := by
 refine ⟨rfl, Nat.le_refl _, fun j hj => ?_, fun j u e => ?_, fun _ => ⟨hw.1, fun j => ?_⟩⟩
 ·rw [obj_put, if_neg (by omega)]
 ·unfold GHeap.unit at e ⊢
  rw [obj_put]
  by_cases hi : i = j
  ·subst hi; rw [if_pos rfl]; rw [ho] at e; simpa [hu] using e
  ·rw [if_neg hi]; exact e
 ·rw [obj_put]
  show _ ↔ j < H.len
  by_cases hi : i = j
  ·subst hi; rw [if_pos rfl]; simp; exact (hw.2 i).1 (by rw [ho]; rfl)
  ·rw [if_neg hi]; exact hw.2 j
def Spares (H H' : GHeap) (tgt : List Nat) : Prop := ∀ i, i < H.len → i ∉ tgt → H'.obj i = H.obj i
theorem gappL_fwd (hw : H.wf) {size bytes u m : Nat} {news : List Value} {sv v : Value} (hW : gappL size bytes u H sv m news = some (v, H')) : Fwd H H' ∧ ∀ tgt, (∀ i ∈ idOf sv, i ∈ tgt) → Spares H H' tgt := by
  have hput : ∀ {i : Nat} {o o' : GObj}, H.lim ≤ i → H.obj i = some o → o'.unit = o.unit → Fwd H (H.put i o') ∧ ∀ tgt : List Nat, i ∈ tgt → Spares H (H.put i o') tgt := fun hl ho hu =>
   ⟨Fwd.put hw hl ho hu, fun tgt hi j _ hj => by rw [obj_put, if_neg (by rintro rfl; exact hj hi)]⟩
  unfold gappL at hW
  have hadd : ∀ o : GObj, Fwd H (H.add (some o)) ∧ ∀ tgt, Spares H (H.add (some o)) tgt := fun o => ⟨Fwd.add hw _, fun tgt j hj _ => by rw [obj_add, if_neg (by omega)]⟩
  split at hW
  ·rename_i b n gc
   split at hW
   ·cases hW; exact ⟨Fwd.refl _, fun _ _ _ _ _ => rfl⟩
   ·split at hW
    ·split at hW
     ·split at hW
      ·cases hW; exact ⟨(hadd _).1, fun tgt _ => (hadd _).2 tgt⟩
      ·cases hW
     ·rename_i i o
      split at hW
      ·split at hW
       ·rename_i cs uu hmine
        obtain ⟨hl, ho⟩ := mine_some hmine
        split at hW
        ·cases hW
         obtain ⟨q1, q2⟩ := hput (o' := .dead uu) hl ho rfl
         refine ⟨q1.trans (Fwd.add (q1.wf hw) _), fun tgt ht j hj hjt => ?_⟩
         rw [obj_add, if_neg (by simp only [GHeap.put]; omega)]
         exact q2 tgt (ht i (by simp [idOf])) j hj hjt
        ·cases hW
       ·cases hW
      ·split at hW
       ·simp only [Option.bind_eq_some_iff] at hW
        obtain ⟨olds, ho, hW⟩ := hW
        split at hW
        ·cases hW; exact ⟨(hadd _).1, fun tgt _ => (hadd _).2 tgt⟩
        ·cases hW
       ·split at hW
        ·rename_i cs uu hmine
         obtain ⟨hl, ho⟩ := mine_some hmine
         split at hW
         ·cases hW
          exact ⟨(hput hl ho (by rfl)).1, fun tgt ht => (hput hl ho (by rfl)).2 tgt (ht i (by simp [idOf]))⟩
         ·cases hW
        ·cases hW
     ·cases hW
    ·cases hW
  ·cases hW
theorem gopW_fwd (hw : H.wf) {g : GOp} {v : Value} (hW : gopW fr H g = some (v, H')) : Fwd H H' ∧ ∀ tgt, (∀ x t, target g = some x → x.ev fr = some t → ∀ i ∈ idOf t, i ∈ tgt) → Spares H H' tgt := by
 have hput : ∀ {i : Nat} {o o' : GObj}, H.lim ≤ i → H.obj i = some o → o'.unit = o.unit → Fwd H (H.put i o') ∧ ∀ tgt : List Nat, i ∈ tgt → Spares H (H.put i o') tgt := fun hl ho hu =>
  ⟨Fwd.put hw hl ho hu, fun tgt hi j _ hj => by rw [obj_put, if_neg (by rintro rfl; exact hj hi)]⟩
 cases g with
 | store k p x =>
  simp only [gopW, Option.bind_eq_some_iff, Option.map_eq_some_iff, Prod.mk.injEq] at hW
  obtain ⟨pv, hpv, xv, hxv, H2, hst, rfl, rfl⟩ := hW
  unfold gst at hst
  split at hst
  ·rename_i i o
   split at hst
   ·cases hst
   ·rename_i cs u hm
    obtain ⟨hl, ho⟩ := mine_some hm
    split at hst
    ·split at hst
     ·cases hst
      exact ⟨(hput hl ho (by rfl)).1, fun tgt ht => (hput hl ho (by rfl)).2 tgt (ht _ _ rfl hpv i (by simp [idOf]))⟩
     ·cases hst
    ·split at hst
     ·split at hst
      ·cases hst
       exact ⟨(hput hl ho (by rfl)).1, fun tgt ht => (hput hl ho (by rfl)).2 tgt (ht _ _ rfl hpv i (by simp [idOf]))⟩
      ·cases hst
     ·cases hst
  ·cases hst
 | next x =>
  simp only [gopW, Option.bind_eq_some_iff] at hW
  obtain ⟨xv, hxv, hW⟩ := hW
  unfold gnext at hW
  split at hW
  ·rename_i i
   split at hW
   ·rename_i hl
    split at hW
    ·rename_i s pos ho
     split at hW
     ·cases hW
      obtain ⟨q1, q2⟩ := hput (o' := .iter s (pos + (Utf8.decode s pos).2)) hl ho rfl
      exact ⟨q1, fun tgt ht => q2 tgt (ht _ _ rfl hxv i (by simp [idOf]))⟩
     ·cases hW
      exact ⟨Fwd.refl _, fun _ _ _ _ _ => rfl⟩
    ·cases hW
   ·cases hW
  ·cases hW
 | app size bytes u s x =>
  simp only [gopW, Option.bind_eq_some_iff] at hW
  obtain ⟨sv, hsv, xv, hxv, hW⟩ := hW
  have hW : ((gcount xv).bind fun m => (gcells size m H xv).bind fun news => gappL size bytes u H sv m news) = some (v, H') := hW
  simp only [Option.bind_eq_some_iff] at hW
  obtain ⟨m, hm, news, hnews, hW⟩ := hW
  obtain ⟨q1, q2⟩ := gappL_fwd hw hW
  exact ⟨q1, fun tgt ht => q2 tgt fun i hi => ht _ _ rfl hsv i hi⟩
 | appZ size bytes u z s x =>
  simp only [gopW, Option.bind_eq_some_iff] at hW
  obtain ⟨sv, hsv, xv, hxv, hW⟩ := hW
  unfold gappZ at hW
  split at hW <;> first | (cases hW; done) | skip
  split at hW <;> first | (cases hW; done) | skip
  obtain ⟨q1, q2⟩ := gappL_fwd hw hW
  exact ⟨q1, fun tgt ht => q2 tgt fun i hi => ht _ _ rfl hsv i hi⟩
 | copy size d x =>
  simp only [gopW, Option.bind_eq_some_iff] at hW
  obtain ⟨sv, hsv, xv, hxv, hW⟩ := hW
  simp only [gcopy, Option.bind_eq_some_iff] at hW
  obtain ⟨m, hm, hW⟩ := hW
  split at hW
  ·rename_i b n gc
   simp only [Option.bind_eq_some_iff] at hW
   obtain ⟨news, hnews, hW⟩ := hW
   split at hW
   ·cases hW; exact ⟨Fwd.refl _, fun _ _ _ _ _ => rfl⟩
   ·split at hW
    ·rename_i i o
     split at hW
     ·rename_i cs uu hmine
      obtain ⟨hl, ho⟩ := mine_some hmine
      split at hW
      ·cases hW
       exact ⟨(hput hl ho (by rfl)).1, fun tgt ht => (hput hl ho (by rfl)).2 tgt (ht _ _ rfl hsv i (by simp [idOf]))⟩
      ·cases hW
     ·cases hW
    ·cases hW
  ·cases hW
 | keep x =>
  simp only [gopW, Option.bind_eq_some_iff] at hW
  obtain ⟨sv, hsv, hW⟩ := hW
  unfold gkeep at hW
  split at hW <;> first | (cases hW; done) | skip
  rename_i i o n c
  cases hm : H.mine i with
  | none => rw [hm] at hW; cases hW
  | some m =>
   rw [hm] at hW
   cases hW
   exact ⟨Fwd.refl _, fun _ _ _ _ _ => rfl⟩
 | _ => cases hW
end
end Go.Gh
namespace Go.Gh
set_option linter.unusedVariables false
set_option linter.unusedSimpArgs false
open Go.RowKit
section
variable {P : Program} {base : Nat} {ι ι' : Inj} {H H' H'' : GHeap} {w w' : World} {fr fr' : Fr} {act : Act}
def CallOk (P : Program) (call : GCall) : Prop := ∀ f args H v H', call f args H = some (v, H') → (H.wf → Fwd H H') ∧ ∃ f2, (∀ (asl : Array Value) (w : World), (callFunc f asl).run P w = .ok (.enter f2 asl) w) ∧
 ∀ base ι w args', H.wf → HR P base H.lim ι H.t w → VRs ι args args' → (∀ i, H.len ≤ i → i < H'.len → ι i = none) → Calls P f2 args'.toArray w (fun e w' => ∃ v', e = .returned v' ∧ After P base ι H w v H' v' w')
def Reach (P : Program) (base : Nat) (ι : Inj) (H : GHeap) (w : World) (N : Nat) (fr' : Fr) (H' : GHeap) (a' : Act) (w' : World) : Prop :=
 ∃ ι', FR ι' fr' a' ∧ a'.tmps.size = N ∧ HR P base H.lim ι' H'.t w' ∧ Below base w w' ∧ ι.le ι' ∧ ∀ i l, ι' i = some l → ι i = some l ∨ (H.len ≤ i ∧ i < H'.len ∧ base ≤ l.block)
theorem Reach.refl (h : HR P base H.lim ι H.t w) (hfr : FR ι fr act) {N : Nat} (hN : act.tmps.size = N) : Reach P base ι H w N fr H act w :=
 ⟨ι, hfr, hN, h, Below.refl _ _, Inj.le.refl _, fun _ _ e => .inl e⟩
theorem fresh_sub {a b c : Nat} (hf : ∀ i, a ≤ i → i < c → ι i = none) (hab : a ≤ b) (hn : ∀ i l, ι' i = some l → ι i = some l ∨ (a ≤ i ∧ i < b ∧ base ≤ l.block)) : ∀ i, b ≤ i → i < c → ι' i = none := by
 intro i h1 h2
 cases e : ι' i with
 | none => rfl
 | some l =>
  rcases hn i l e with h | ⟨_, h, _⟩
  ·rw [hf i (by omega) h2] at h; cases h
  ·omega
theorem Reach.trans {N : Nat} {a1 a2 : Act} {w1 w2 : World} {fr1 fr2 : Fr} {H1 H2 : GHeap} (hF : Fwd H H1) (hL : H1.len ≤ H2.len) (hι : ∀ i l, ι' i = some l → ι i = some l ∨ (H.len ≤ i ∧ i < H1.len ∧ base ≤ l.block)) (hle : ι.le ι') (hb : Below base w w1)
  (h : Reach P base ι' H1 w1 N fr2 H2 a2 w2) : Reach P base ι H w N fr2 H2 a2 w2 := by
 obtain ⟨ι2, h1, h2, h3, h4, h5, h6⟩ := h
 refine ⟨ι2, h1, h2, by rw [← hF.lim]; exact h3, hb.trans h4, hle.trans h5, fun i l e => ?_⟩
 rcases h6 i l e with g | ⟨g1, g2, g3⟩
 ·rcases hι i l g with g | ⟨g1, g2, g3⟩
  ·exact .inl g
  ·exact .inr ⟨g1, by omega, g3⟩
 ·exact .inr ⟨by have := hF.len; omega, g2, g3⟩
theorem gdo_fwd {call : GCall} (hcall : CallOk P call) (hw : H.wf) {g : GOp} {v : Value} (hd : gdo call fr H g = some (v, H')) : Fwd H H' := by
 unfold gdo at hd
 split at hd
 ·simp only [Option.bind_eq_some_iff] at hd
  obtain ⟨⟨f, args⟩, _, hd⟩ := hd
  exact (hcall _ _ _ _ _ hd).1 hw
 ·split at hd
  ·exact (gopW_fwd hw hd).1
  ·simp only [Option.map_eq_some_iff, Prod.mk.injEq] at hd
   obtain ⟨⟨v', new⟩, _, rfl, rfl⟩ := hd
   exact Fwd.add hw _
theorem cOp_call {op : Op} {f : GArg} {xs : List GArg} (h : cOp P op = some (.call f xs)) : ∃ F args ts, op = .call { callee := .value F, args := args, argTypes := ts } ∧ cArg P F = some f ∧ cArgs P args.toList = some xs := by
 cases op with
 | call c =>
  obtain ⟨callee, args, ts⟩ := c
  cases callee with
  | builtin b => exfalso; cases b <;> (simp only [cOp] at h; revert h; (repeat' split) <;> first | contradiction | simp)
  | value F =>
   simp only [cOp] at h
   split at h
   ·rename_i f' l hf hl
    cases h
    exact ⟨F, args, ts, rfl, hf, hl⟩
   ·cases h
  | invoke r m => simp [cOp] at h
 | _ => exfalso; revert h; simp only [cOp]; (repeat' split) <;> first | contradiction | simp
theorem call_wp {call : GCall} (hcall : CallOk P call) {o : Oper} {f : GArg} {xs : List GArg} (hc : cOp P o.op = some (.call f xs)) {g : FuncId} {args : List Value} (ht : gtarget fr f xs = some (g, args)) {v : Value} (hd : call g args H = some (v, H')) (hw : H.wf)
  {lim0 base0 : Nat} {t0 : Tr GObj} (hR0 : HR P base0 lim0 ι t0 w) (h : HR P base H.lim ι H.t w) (hfr : FR ι fr act) (hf : ∀ i, H.len ≤ i → i < H'.len → ι i = none) {K : Act → World → Prop} {Q : Exit → Act → World → Prop}
  (hK : ∀ v' w', After P base ι H w v H' v' w' → K (act.put o.dst v') w') : o.wp P act w K Q := by
 obtain ⟨dst, op, ty, pos, after, guard⟩ := o
 obtain ⟨F, asl, ts, rfl, hF, hxs⟩ := cOp_call hc
 unfold gtarget at ht
 split at ht
 ·rename_i gg first cap hfv
  simp only [Option.map_eq_some_iff, Prod.mk.injEq] at ht
  obtain ⟨l, hl, rfl, rfl⟩ := ht
  obtain ⟨a', b', hFe, ha, hb⟩ := (cArg_ok hF hfv hfr hR0).func_inv
  have hargs := (ha.append (cArgs_ok hfr hR0 _ _ _ hxs hl)).append hb
  obtain ⟨_, f2, hrun, hsim⟩ := hcall _ _ _ _ _ hd
  unfold Oper.wp
  have he : (execOp act.eval { dst, op := .call { callee := .value F, args := asl, argTypes := ts }, type := ty, pos, after, guard }).run P w = .ok (.enter f2 (a' ++ asl.map act.eval ++ b')) w := by
   show (do let d ← Deferred.ofValue (act.eval F) (asl.map act.eval); invoke d.target d.args : Sem Next).run P w = _
   rw [hFe]
   simp only [Deferred.ofValue, Sem.run_bind, Sem.run_pure, Result.andThen_ok, invoke]
   exact hrun _ _
  rw [he]
  have := hsim base ι w _ hw h hargs hf
  have e1 : (a'.toList ++ asl.toList.map act.eval ++ b'.toList).toArray = a' ++ asl.map act.eval ++ b' := by apply Array.ext'; simp
  rw [e1] at this
  refine Calls.mono this fun e w' ⟨v', he, hA⟩ => ?_
  subst he
  exact hK v' w' hA
 ·cases ht
theorem gdo_ok {call : GCall} (hcall : CallOk P call) (hb : szK P P.rt.byte = some 1) {o : Oper} {g : GOp} (hc : opRel P o.op g) {v : Value} (hd : gdo call fr H g = some (v, H')) (hw : H.wf) (h : HR P base H.lim ι H.t w) (hfr : FR ι fr act) (hf : ∀ i, H.len ≤ i → i < H'.len → ι i = none)
  {K : Act → World → Prop} {Q : Exit → Act → World → Prop} (hK : ∀ v' w', After P base ι H w v H' v' w' → K (act.put o.dst v') w') : o.wp P act w K Q := by
 unfold gdo at hd
 split at hd
 ·rename_i f xs
  have hc' : cOp P o.op = some (.call f xs) := by
   rcases hc with hc | ⟨_, _, _, _, _, _, e⟩
   ·exact hc
   ·cases e
  simp only [Option.bind_eq_some_iff] at hd
  obtain ⟨⟨g, args⟩, ht, hd⟩ := hd
  exact call_wp hcall hc' ht hd hw h h hfr hf hK
 ·rename_i hne
  have hex : WOk P base ι H w v H' (execOp act.eval o) := by
   split at hd
   ·rename_i hwr
    have hc' : cOp P o.op = some g := by
     rcases hc with hc | ⟨_, _, _, _, _, _, e⟩
     ·exact hc
     ·subst e; simp [writes] at hwr
    exact gopW_ok hc' hd h hfr hb (fun hl => hf _ (Nat.le_refl _) hl)
   ·simp only [Option.map_eq_some_iff, Prod.mk.injEq] at hd
    obtain ⟨⟨v', new⟩, hM, rfl, rfl⟩ := hd
    have hn : new.isSome = true → ι H.len = none := fun hs => hf _ (Nat.le_refl _) (by cases new <;> simp [GHeap.add] at hs ⊢)
    exact mok_w h (gopM_ok hc hM h hfr hb hn) hn
  obtain ⟨v', w', hr, hA⟩ := hex
  unfold Oper.wp
  rcases hr with hr | ⟨hr, rfl⟩ <;> rw [hr] <;> exact hK _ _ hA
theorem wants_ok {ops : Array Oper} {o : Oper} {g : Option (Nat × Bool)} (hg : cGuard ops o.guard = some g) (hfr : FR ι fr act) {b : Bool} (hw : gwants fr g = some b) : Region.wanted o (yielded ops act.tmps) = b := by
 unfold cGuard at hg
 split at hg
 ·rename_i hn
  cases hg
  cases hw
  simp [Region.wanted, hn]
 ·rename_i j c hn
  simp only [Option.map_eq_some_iff] at hg
  obtain ⟨d, hd, rfl⟩ := hg
  simp only [gwants] at hw
  split at hw
  ·rename_i x hx
   cases hw
   obtain ⟨v', h1, h2⟩ := hfr.2 d _ hx
   have := h2.bool_inv
   subst this
   simp [Region.wanted, hn, yielded, hd, h1]
  ·rename_i y hy hx
   cases hw
   obtain ⟨v', h1, h2⟩ := hfr.2 d _ hx
   have hnb : ∀ q, v' ≠ .bool q := by
    rintro q rfl
    cases h2
    exact hy q rfl
   simp only [Region.wanted, hn, yielded, hd, Option.bind_some, h1]
   cases v' <;> first | rfl | exact absurd rfl (hnb _)
  ·cases hw
theorem cOper_some {ops : Array Oper} {o : Oper} {g : GOper} (h : cOper P ops o = g) (hb : g.op ≠ .bad) : cOp P o.op = some g.op ∧ cGuard ops o.guard = some g.guard ∧ g.dst = o.dst := by
 unfold cOper at h
 split at h
 ·rename_i g' hg
  subst h
  cases hc : cOp P o.op with
  | none => rw [hc] at hb; exact absurd rfl hb
  | some x => exact ⟨by simp, hg, rfl⟩
 ·subst h; exact absurd rfl hb
theorem bad_stuck {call : GCall} {v : Value} {H' : GHeap} (h : gdo call fr H .bad = some (v, H')) : False := by
 simp [gdo, writes, gopM] at h
theorem gsteps_fwd {run : Fr → GHeap → GOp → Option (Value × GHeap)} (hr : ∀ fr H g v H', H.wf → run fr H g = some (v, H') → Fwd H H') : ∀ (l : List GOper) (fr fr' : Fr) (H H' : GHeap), H.wf → gsteps run l fr H = some (fr', H') → Fwd H H'
 | [], fr, fr', H, H', hw, h => by cases h; exact Fwd.refl _
 | o :: r, fr, fr', H, H', hw, h => by
  simp only [gsteps] at h
  split at h
  ·split at h
   ·rename_i v H1 h1
    have := hr _ _ _ _ _ hw h1
    exact this.trans (gsteps_fwd hr r _ _ _ _ (this.wf hw) h)
   ·cases h
  ·exact gsteps_fwd hr r _ _ _ _ hw h
  ·cases h
theorem line_ok {call : GCall} (hcall : CallOk P call) (hb : szK P P.rt.byte = some 1) {ops : Array Oper} {N : Nat} (hdst : ∀ o ∈ ops.toList, ∀ d, o.dst = some d → d < N) {Q : Exit → Act → World → Prop} :
  ∀ (n k : Nat), k + n = ops.size → ∀ (ι : Inj) (fr fr' : Fr) (H H' : GHeap) (act : Act) (w : World), gsteps (gdo call) ((ops.toList.drop k).map (cOper P ops)) fr H = some (fr', H') → H.wf → HR P base H.lim ι H.t w → FR ι fr act → act.tmps.size = N →
   (∀ i, H.len ≤ i → i < H'.len → ι i = none) → (∀ a' w', Reach P base ι H w N fr' H' a' w' → Q .normal a' w') → wpOps P ops Q (List.range' k n) act w
 | 0, k, hk, ι, fr, fr', H, H', act, w, hs, hw, h, hfr, hN, hf, hQ => by
  have : ops.toList.drop k = [] := by simp; omega
  rw [this] at hs
  cases hs
  exact hQ _ _ (Reach.refl h hfr hN)
 | n + 1, k, hk, ι, fr, fr', H, H', act, w, hs, hw, h, hfr, hN, hf, hQ => by
  have hkl : k < ops.size := by omega
  have hd : ops.toList.drop k = ops[k] :: ops.toList.drop (k + 1) := by
   rw [List.drop_eq_getElem_cons (by simpa using hkl)]; simp
  rw [hd, List.map_cons] at hs
  rw [List.range'_succ, wpOps_cons]
  unfold wpOp
  have hok : ops[k]? = some ops[k] := Array.getElem?_eq_getElem hkl
  simp only [hok]
  have hdd : ∀ d, (ops[k]).dst = some d → d < act.tmps.size := fun d hd => by rw [hN]; exact hdst _ (by simp) d hd
  simp only [gsteps] at hs
  split at hs
  ·rename_i hwant
   split at hs
   ·rename_i v H1 h1
    have hnb : (cOper P ops ops[k]).op ≠ .bad := fun e => by rw [e] at h1; exact bad_stuck h1
    obtain ⟨c1, c2, c3⟩ := cOper_some rfl hnb
    rw [if_pos (wants_ok c2 hfr hwant)]
    left
    have hF1 := gdo_fwd hcall hw h1
    have hF2 : Fwd H1 H' := gsteps_fwd (fun _ _ _ _ _ hw h => gdo_fwd hcall hw h) _ _ _ _ _ (hF1.wf hw) hs
    refine gdo_ok hcall hb (.inl c1) h1 hw h hfr (fun i h1 h2 => hf i h1 (Nat.lt_of_lt_of_le h2 hF2.len)) fun v' w' hA => ?_
    obtain ⟨ι1, g1, g2, g3, g4, g5⟩ := hA
    rw [c3] at hs
    refine line_ok hcall hb hdst n (k + 1) (by omega) ι1 _ fr' H1 H' _ w' hs (hF1.wf hw) (by rw [hF1.lim]; exact g2) ((hfr.mono g4).put g1 hdd) (by rw [put_size]; exact hN) (fresh_sub hf hF1.len g5) fun a2 w2 hR => ?_
    exact hQ _ _ (Reach.trans (fr1 := fr') (a1 := act) hF1 hF2.len g5 g4 g3 hR)
   ·cases hs
  ·rename_i hwant
   by_cases hnb : (cOper P ops ops[k]).op = .bad
   · -- an operation that is not covered, and not wanted
    have hg2 : cGuard ops (ops[k]).guard = some (cOper P ops ops[k]).guard ∧ (cOper P ops ops[k]).dst = (ops[k]).dst := by
     unfold cOper at hwant ⊢
     split
     ·rename_i g hg; exact ⟨hg, rfl⟩
     ·rename_i hg; rw [hg] at hwant; cases hwant
    rw [if_neg (by rw [wants_ok hg2.1 hfr hwant]; simp)]
    rw [hg2.2] at hs
    exact line_ok hcall hb hdst n (k + 1) (by omega) ι _ fr' H H' _ w hs hw h (hfr.put (.tup rfl (by simp)) hdd) (by rw [put_size]; exact hN) hf hQ
   ·obtain ⟨c1, c2, c3⟩ := cOper_some rfl hnb
    rw [if_neg (by rw [wants_ok c2 hfr hwant]; simp)]
    rw [c3] at hs
    exact line_ok hcall hb hdst n (k + 1) (by omega) ι _ fr' H H' _ w hs hw h (hfr.put (.tup rfl (by simp)) hdd) (by rw [put_size]; exact hN) hf hQ
  ·cases hs
end
end Go.Gh
namespace Go.Gh
set_option linter.unusedVariables false
set_option linter.unusedSimpArgs false
open Go.RowKit
theorem mem_addNew (l : List Nat) : ∀ (acc : List Nat) (i : Nat), i ∈ l.foldl addNew acc ↔ i ∈ acc ∨ i ∈ l := by
 induction l with
 | nil => simp
 | cons x l ih =>
  intro acc i
  rw [List.foldl_cons, ih]
  unfold addNew
  split
  ·rename_i h
   simp only [List.contains_iff_mem] at h
   simp only [List.mem_cons]
   constructor
   ·rintro (h1 | h1)
    ·exact .inl h1
    ·exact .inr (.inr h1)
   ·rintro (h1 | rfl | h1)
    ·exact .inl h1
    ·exact .inl h
    ·exact .inr h1
  ·simp only [List.mem_cons]
   constructor
   ·rintro ((h1 | h1) | h1)
    ·exact .inr (.inl h1)
    ·exact .inl h1
    ·exact .inr (.inr h1)
   ·rintro (h1 | h1 | h1)
    ·exact .inl (.inr h1)
    ·exact .inl (.inl h1)
    ·exact .inr h1
theorem snoc_ind {α : Type} {p : List α → Prop} (h0 : p []) (h1 : ∀ l x, p l → p (l ++ [x])) (l : List α) : p l := by
 have : ∀ l : List α, p l.reverse := by
  intro l
  induction l with
  | nil => exact h0
  | cons x l ih => rw [List.reverse_cons]; exact h1 _ _ ih
 simpa using this l.reverse
def befs (l : List Oper) : List (List Nat) := l.foldl befStep []
theorem befs_snoc (l : List Oper) (o : Oper) : befs (l ++ [o]) = befs l ++ [((o.after.toList.filter (Region.binds .any)).flatMap fun e => e.on :: (befs l).getD e.on []).foldl addNew []] := by
 unfold befs; rw [List.foldl_append]; rfl
theorem befs_len : ∀ (l : List Oper), (befs l).length = l.length := by
 refine snoc_ind rfl fun l o ih => ?_
 rw [befs_snoc]; simp [ih]
theorem befs_mem : ∀ (l : List Oper) (j : Nat) (o : Oper), l[j]? = some o → ∀ i, i ∈ (befs l).getD j [] ↔ ∃ e ∈ o.after.toList, Region.binds .any e = true ∧ (i = e.on ∨ (e.on < j ∧ i ∈ (befs l).getD e.on [])) := by
 refine snoc_ind (fun j o h => by simp at h) fun l o' ih => ?_
 ·intro j o h i
  rw [befs_snoc]
  have hlen := befs_len l
  have hget : ∀ k, k < l.length → (befs l ++ [((o'.after.toList.filter (Region.binds .any)).flatMap fun e => e.on :: (befs l).getD e.on []).foldl addNew []]).getD k [] = (befs l).getD k [] := fun k hk => by
   simp only [List.getD_eq_getElem?_getD]; rw [List.getElem?_append_left (by omega)]
  rcases Nat.lt_or_ge j l.length with hj | hj
  ·rw [List.getElem?_append_left hj] at h
   rw [hget j hj, ih j o h i]
   constructor
   ·rintro ⟨e, h1, h2, h3⟩
    refine ⟨e, h1, h2, h3.imp id fun ⟨h4, h5⟩ => ⟨h4, by rw [hget _ (by omega)]; exact h5⟩⟩
   ·rintro ⟨e, h1, h2, h3⟩
    refine ⟨e, h1, h2, h3.imp id fun ⟨h4, h5⟩ => ⟨h4, by rw [hget _ (by omega)] at h5; exact h5⟩⟩
  ·rw [List.getElem?_append_right hj] at h
   obtain rfl : j = l.length := by
    rcases Nat.eq_or_lt_of_le hj with e | e
    ·exact e.symm
    ·have : j - l.length ≠ 0 := by omega
     cases hh : j - l.length with
     | zero => omega
     | succ k => rw [hh] at h; simp at h
   simp at h
   subst h
   have e1 : (befs l ++ [((o'.after.toList.filter (Region.binds .any)).flatMap fun e => e.on :: (befs l).getD e.on []).foldl addNew []]).getD l.length [] = ((o'.after.toList.filter (Region.binds .any)).flatMap fun e => e.on :: (befs l).getD e.on []).foldl addNew [] := by
    rw [List.getD_eq_getElem?_getD, List.getElem?_append_right (by omega), hlen]; simp
   rw [e1, mem_addNew]
   simp only [List.not_mem_nil, false_or, List.mem_flatMap, List.mem_filter, List.mem_cons]
   constructor
   ·rintro ⟨e, ⟨h1, h2⟩, h3⟩
    refine ⟨e, h1, h2, h3.imp id fun h4 => ?_⟩
    have he : e.on < l.length := by
     rcases Nat.lt_or_ge e.on l.length with hh | hh
     ·exact hh
     ·rw [List.getD_eq_getElem?_getD, List.getElem?_eq_none (by omega)] at h4; simp at h4
    exact ⟨he, by rw [hget _ he]; exact h4⟩
   ·rintro ⟨e, h1, h2, h3⟩
    exact ⟨e, ⟨h1, h2⟩, h3.imp id fun ⟨h4, h5⟩ => by rw [hget _ h4] at h5; exact h5⟩
theorem closed_all {ops : Array Oper} {S : Nat → Prop} (hS : ∀ j o, ops[j]? = some o → S j → ∀ e ∈ o.after.toList, Region.binds .any e = true → S e.on) :
  ∀ (n j : Nat) (o : Oper), j ≤ n → ops[j]? = some o → (∀ e ∈ o.after.toList, Region.binds .any e = true → S e.on) → ∀ i ∈ (befores ops).getD j [], S i := by
 intro n
 induction n with
 | zero =>
  intro j o hj ho hd i hi
  rw [befores, ← befs, befs_mem ops.toList j o (by simpa using ho)] at hi
  obtain ⟨e, h1, h2, h3 | ⟨h3, _⟩⟩ := hi
  ·subst h3; exact hd e h1 h2
  ·omega
 | succ n ih =>
  intro j o hj ho hd i hi
  rw [befores, ← befs, befs_mem ops.toList j o (by simpa using ho)] at hi
  obtain ⟨e, h1, h2, h3 | ⟨h3, h4⟩⟩ := hi
  ·subst h3; exact hd e h1 h2
  ·have hs := hd e h1 h2
   have hlt : e.on < ops.size := by have := (Array.getElem?_eq_some_iff.1 ho).1; omega
   exact ih e.on ops[e.on] (by omega) (Array.getElem?_eq_getElem hlt) (hS _ _ (Array.getElem?_eq_getElem hlt) hs) i h4
theorem direct_mem {ops : Array Oper} {j : Nat} {o : Oper} (ho : ops[j]? = some o) {e : Edge} (he : e ∈ o.after.toList) (hb : Region.binds .any e = true) : e.on ∈ (befores ops).getD j [] := by
 rw [befores, ← befs, befs_mem ops.toList j o (by simpa using ho)]
 exact ⟨e, he, hb, .inl rfl⟩
section
variable {f1 f2 : Fr} {H H' : GHeap}
theorem evs_agree : ∀ (l : List GArg), (∀ x ∈ l, x.ev f1 = x.ev f2) → evs f1 l = evs f2 l
 | [], _ => rfl
 | x :: l, h => by simp only [evs, h x (by simp), evs_agree l (fun y hy => h y (by simp [hy]))]
theorem evParts_agree : ∀ (l : List (Nat × Nat × GArg)), (∀ x ∈ l.map (·.2.2), x.ev f1 = x.ev f2) → evParts f1 l = evParts f2 l
 | [], _ => rfl
 | (o, n, x) :: l, h => by simp only [evParts, h x (by simp), evParts_agree l (fun y hy => h y (by simp at hy ⊢; exact .inr hy))]
theorem evOpt_agree : ∀ (x : Option GArg), (∀ y ∈ x.toList, y.ev f1 = y.ev f2) → evOpt f1 x = evOpt f2 x
 | none, _ => rfl
 | some x, h => by simp only [evOpt, h x (by simp)]
theorem gopM_agree {op : GOp} (h : ∀ x ∈ planOk.args op, x.ev f1 = x.ev f2) : gopM f1 H op = gopM f2 H op := by
 cases op <;> simp only [planOk.args] at h <;> simp only [gopM]
 case build => rw [evParts_agree _ h]
 case buildSl => rw [evParts_agree _ h]
 case slice r x lo hi mx =>
  rw [h x (by simp), evOpt_agree lo (fun y hy => h y (by simp at hy ⊢; simp [hy])), evOpt_agree hi (fun y hy => h y (by simp at hy ⊢; simp [hy])), evOpt_agree mx (fun y hy => h y (by simp at hy ⊢; simp [hy]))]
 case fn => rw [evs_agree _ (fun y hy => h y (by simp [hy])), evs_agree _ (fun y hy => h y (by simp [hy]))]
 case min => rw [h _ (by simp), evs_agree _ (fun y hy => h y (by simp [hy]))]
 case max => rw [h _ (by simp), evs_agree _ (fun y hy => h y (by simp [hy]))]
 all_goals (simp only [List.mem_cons, List.not_mem_nil, or_false, forall_eq_or_imp, forall_eq] at h; simp only [h])
theorem gopW_agree {op : GOp} (h : ∀ x ∈ planOk.args op, x.ev f1 = x.ev f2) : gopW f1 H op = gopW f2 H op := by
 cases op <;> simp only [planOk.args] at h <;> simp only [gopW]
 all_goals (simp only [List.mem_cons, List.not_mem_nil, or_false, forall_eq_or_imp, forall_eq] at h; simp only [h])
theorem gtarget_agree {f : GArg} {xs : List GArg} (h : ∀ x ∈ f :: xs, x.ev f1 = x.ev f2) : gtarget f1 f xs = gtarget f2 f xs := by
 simp only [gtarget, h f (by simp), evs_agree xs (fun y hy => h y (by simp [hy]))]
theorem gdo_agree {call : GCall} {op : GOp} (h : ∀ x ∈ planOk.args op, x.ev f1 = x.ev f2) : gdo call f1 H op = gdo call f2 H op := by
 cases op <;> first
  | (simp only [gdo]; rw [gtarget_agree (by simpa [planOk.args] using h)]; done)
  | (simp only [gdo, gopM_agree h, gopW_agree h]; done)
theorem gdoM_agree {call : GCall} {op : GOp} (h : ∀ x ∈ planOk.args op, x.ev f1 = x.ev f2) : gdoM call f1 H op = gdoM call f2 H op := by
 cases op <;> first
  | (simp only [gdoM]; rw [gtarget_agree (by simpa [planOk.args] using h)]; done)
  | (simp only [gdoM, gopM_agree h]; done)
theorem gwants_agree {g : Option (Nat × Bool)} (h : ∀ x ∈ g.toList.map (·.1), f1.get x = f2.get x) : gwants f1 g = gwants f2 g := by
 cases g with
 | none => rfl
 | some g => obtain ⟨d, b⟩ := g; simp only [gwants, h d (by simp)]
theorem pure_any {op : GOp} (hp : pureG op = true) {fr : Fr} {v : Value} {new : Option GObj} (h : gopM fr H op = some (v, new)) (hu : ∀ i u, H.unit i = some u → H'.unit i = some u) : new = none ∧ gopM fr H' op = some (v, none) := by
 cases op
 case pick c a b =>
  simp only [gopM] at h ⊢
  split at h
  ·simp only [Option.map_eq_some_iff, Prod.mk.injEq] at h ⊢
   obtain ⟨x, h1, h2, rfl⟩ := h; exact ⟨rfl, x, h1, h2, trivial⟩
  ·cases h
 case lenOf => cases h; exact ⟨rfl, rfl⟩
 case nilc x =>
  simp only [gopM, Option.bind_eq_some_iff] at h ⊢
  obtain ⟨x, h1, h2⟩ := h
  split at h2 <;> cases h2 <;> exact ⟨rfl, _, h1, rfl⟩
 case ext x k =>
  simp only [gopM, Option.bind_eq_some_iff] at h ⊢
  obtain ⟨x, h1, h2⟩ := h
  split at h2
  ·simp only [Option.map_eq_some_iff, Prod.mk.injEq] at h2
   obtain ⟨r, h3, rfl, rfl⟩ := h2
   exact ⟨rfl, _, h1, by simp [h3]⟩
  ·cases h2
 case conv r x =>
  simp only [gopM, Option.bind_eq_some_iff] at h ⊢
  obtain ⟨x, h1, h2⟩ := h
  cases r <;> simp [pureG] at hp <;> (unfold gconv at h2 ⊢; cases x <;> simp at h2) <;> (obtain ⟨rfl, rfl⟩ := h2; exact ⟨rfl, _, h1, rfl⟩)
 case slice r x lo hi mx =>
  simp only [gopM, Option.bind_eq_some_iff, Option.map_eq_some_iff, Prod.mk.injEq] at h ⊢
  obtain ⟨x, h1, l, h2, hh, h3, m, h4, r', h5, rfl, rfl⟩ := h
  refine ⟨rfl, x, h1, l, h2, hh, h3, m, h4, r', ?_, rfl, trivial⟩
  unfold gslice at h5 ⊢
  split at h5
  ·exact h5
  ·exact h5
  ·split at h5
   ·rename_i u hh
    simp only [hu _ _ hh]
    exact h5
   ·cases h5
  ·split at h5
   ·rename_i hh
    simp only [hu _ _ hh]
    exact h5
   ·cases h5
  ·cases h5
 case build => simp only [gopM, Option.bind_eq_some_iff, Option.map_eq_some_iff, Prod.mk.injEq] at h ⊢; obtain ⟨x, h1, y, h2, h3, rfl⟩ := h; exact ⟨rfl, x, h1, y, h2, h3, trivial⟩
 case bin => simp only [gopM, Option.bind_eq_some_iff, Option.map_eq_some_iff, Prod.mk.injEq] at h ⊢; obtain ⟨x, h1, y, h2, z, h3, h4, rfl⟩ := h; exact ⟨rfl, x, h1, y, h2, z, h3, h4, trivial⟩
 case fn => simp only [gopM, Option.bind_eq_some_iff, Option.map_eq_some_iff, Prod.mk.injEq] at h ⊢; obtain ⟨x, h1, y, h2, h3, rfl⟩ := h; exact ⟨rfl, x, h1, y, h2, h3, trivial⟩
 case ia => simp only [gopM, Option.bind_eq_some_iff, Option.map_eq_some_iff, Prod.mk.injEq] at h ⊢; obtain ⟨x, h1, y, h2, z, h3, h4, rfl⟩ := h; exact ⟨rfl, x, h1, y, h2, z, h3, h4, trivial⟩
 case ix => simp only [gopM, Option.bind_eq_some_iff, Option.map_eq_some_iff, Prod.mk.injEq] at h ⊢; obtain ⟨x, h1, y, h2, z, h3, h4, rfl⟩ := h; exact ⟨rfl, x, h1, y, h2, z, h3, h4, trivial⟩
 case min => simp only [gopM, Option.bind_eq_some_iff, Option.map_eq_some_iff, Prod.mk.injEq] at h ⊢; obtain ⟨x, h1, y, h2, z, h3, h4, rfl⟩ := h; exact ⟨rfl, x, h1, y, h2, z, h3, h4, trivial⟩
 case max => simp only [gopM, Option.bind_eq_some_iff, Option.map_eq_some_iff, Prod.mk.injEq] at h ⊢; obtain ⟨x, h1, y, h2, z, h3, h4, rfl⟩ := h; exact ⟨rfl, x, h1, y, h2, z, h3, h4, trivial⟩
 case move => simp only [gopM, Option.map_eq_some_iff, Prod.mk.injEq] at h ⊢; obtain ⟨x, h1, h2, rfl⟩ := h; exact ⟨rfl, x, h1, h2, trivial⟩
 all_goals first
  | (simp [pureG] at hp; done)
  | (simp only [gopM, Option.bind_eq_some_iff, Option.map_eq_some_iff, Prod.mk.injEq] at h ⊢; obtain ⟨x, h1, y, h2, h3, rfl⟩ := h; exact ⟨rfl, x, h1, y, h2, h3, trivial⟩)
end
end Go.Gh
