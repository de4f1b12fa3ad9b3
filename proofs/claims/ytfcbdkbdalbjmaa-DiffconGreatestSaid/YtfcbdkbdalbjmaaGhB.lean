/-
  How a ghost heap stands to a world: where each object lies, which value stands for which.
-/
import Derived.Test.YtfcbdkbdalbjmaaGhA
import Derived.Laws.IdiomCopy
import Derived.Laws.IdiomStrings
import Derived.Laws.MakeOwn
namespace Go.Gh
set_option linter.unusedVariables false
set_option linter.unusedSimpArgs false
open Go.RowKit

structure GLoc where
  block : Nat
  off : Nat
  unit : Nat
  size : Nat
abbrev Inj := Nat → Option GLoc
def Inj.le (ι ι' : Inj) : Prop := ∀ i l, ι i = some l → ι' i = some l
theorem Inj.le.refl (ι : Inj) : ι.le ι := fun _ _ h => h
theorem Inj.le.trans {a b c : Inj} (h : a.le b) (k : b.le c) : a.le c := fun i l e => k i l (h i l e)
def Inj.upd (ι : Inj) (n : Nat) (L : GLoc) : Inj := fun i => if i = n then some L else ι i
theorem Inj.upd_same (ι : Inj) (n : Nat) (L : GLoc) : ι.upd n L n = some L := by simp [Inj.upd]
theorem Inj.upd_ne (ι : Inj) {n i : Nat} (L : GLoc) (h : i ≠ n) : ι.upd n L i = ι i := by simp [Inj.upd, h]
theorem Inj.le_upd {ι : Inj} {n : Nat} (L : GLoc) (h : ι n = none) : ι.le (ι.upd n L) := fun i l e => by
  by_cases hi : i = n
  · subst hi; rw [h] at e; cases e
  · rw [Inj.upd_ne _ _ hi]; exact e

inductive VR (ι : Inj) : Value → Value → Prop
  | lit {v : Value} (h : litFlat v = true) : VR ι v v
  | ptr {i o : Nat} {l : GLoc} (h : ι i = some l) : VR ι (.pointer (some ⟨i, o, none⟩)) (.pointer (some ⟨l.block, l.off + o, none⟩))
  | slV {x y : Addr} {gc : Nat} (h : gc ≤ 1) : VR ι (.slice (some x) 0 gc) (.slice (some y) 0 0)
  | sl {i o n gc c : Nat} {l : GLoc} (h : ι i = some l) (hn : n ≤ c) (hg : gc = 0 ∨ gc = c + 1) (hb : l.unit = 0 ∨ l.off + o + c * l.unit ≤ l.size) :
      VR ι (.slice (some ⟨i, o, none⟩) n gc) (.slice (some ⟨l.block, l.off + o, none⟩) n c)
  | func {fn : Fn} {a b a' b' : Array Value} (hs : a.size = a'.size) (h : ∀ j (h1 : j < a.size) (h2 : j < a'.size), VR ι a[j] a'[j])
      (ht : b.size = b'.size) (k : ∀ j (h1 : j < b.size) (h2 : j < b'.size), VR ι b[j] b'[j]) : VR ι (.func fn a b) (.func fn a' b')
  | agg {cs ds : Array Value} (hs : cs.size = ds.size) (h : ∀ j (h1 : j < cs.size) (h2 : j < ds.size), VR ι cs[j] ds[j]) : VR ι (.agg cs) (.agg ds)
  | tup {cs ds : Array Value} (hs : cs.size = ds.size) (h : ∀ j (h1 : j < cs.size) (h2 : j < ds.size), VR ι cs[j] ds[j]) : VR ι (.tuple cs) (.tuple ds)

theorem VR.mono {ι ι' : Inj} (hle : ι.le ι') {v v' : Value} (h : VR ι v v') : VR ι' v v' := by
  induction h with
  | lit h => exact .lit h
  | ptr h => exact .ptr (hle _ _ h)
  | slV h => exact .slV h
  | sl h hn hg hb => exact .sl (hle _ _ h) hn hg hb
  | func hs _ ht _ ih ik => exact .func hs ih ht ik
  | agg hs _ ih => exact .agg hs ih
  | tup hs _ ih => exact .tup hs ih

/-- lists of values -/
def VRs (ι : Inj) (l l' : List Value) : Prop := l.length = l'.length ∧ ∀ (j : Nat) v, l[j]? = some v → ∃ v', l'[j]? = some v' ∧ VR ι v v'
section
variable {ι ι' : Inj}
theorem VRs.nil : VRs ι [] [] := ⟨rfl, by simp⟩
theorem VRs.cons {v v' : Value} {l l' : List Value} (h : VR ι v v') (k : VRs ι l l') : VRs ι (v :: l) (v' :: l') := by
  refine ⟨by simp [k.1], fun j u hu => ?_⟩
  cases j with
  | zero => simp at hu; subst hu; exact ⟨v', by simp, h⟩
  | succ j => simpa using k.2 j u (by simpa using hu)
theorem VRs.cons_inv {v : Value} {l l' : List Value} (h : VRs ι (v :: l) l') : ∃ v' r, l' = v' :: r ∧ VR ι v v' ∧ VRs ι l r := by
  cases l' with
  | nil => have := h.1; simp at this
  | cons v' r =>
    obtain ⟨u, hu, hv⟩ := h.2 0 v (by simp)
    simp at hu
    subst hu
    exact ⟨_, _, rfl, hv, by simpa using h.1, fun j u hu => by simpa using h.2 (j + 1) u (by simpa using hu)⟩
theorem VRs.nil_inv {l' : List Value} (h : VRs ι [] l') : l' = [] := List.eq_nil_of_length_eq_zero h.1.symm
theorem VRs.mono {l l' : List Value} (h : VRs ι l l') (hle : ι.le ι') : VRs ι' l l' := ⟨h.1, fun j v hv => let ⟨v', a, b⟩ := h.2 j v hv; ⟨v', a, b.mono hle⟩⟩
theorem VRs.append {a a' b b' : List Value} (h : VRs ι a a') (k : VRs ι b b') : VRs ι (a ++ b) (a' ++ b') := by
  induction a generalizing a' with
  | nil => obtain rfl := h.nil_inv; exact k
  | cons v r ih => obtain ⟨v', r', rfl, h1, h2⟩ := h.cons_inv; exact (ih h2).cons h1 |> fun x => x
theorem VRs.take {a a' : List Value} (h : VRs ι a a') (n : Nat) : VRs ι (a.take n) (a'.take n) := by
  refine ⟨by simp [h.1], fun j v hv => ?_⟩
  rw [List.getElem?_take] at hv
  split at hv
  · rename_i hj
    obtain ⟨v', h1, h2⟩ := h.2 j v hv
    exact ⟨v', by rw [List.getElem?_take, if_pos hj, h1], h2⟩
  · cases hv
theorem VRs.drop {a a' : List Value} (h : VRs ι a a') (n : Nat) : VRs ι (a.drop n) (a'.drop n) := by
  refine ⟨by simp [h.1], fun j v hv => ?_⟩
  rw [List.getElem?_drop] at hv
  obtain ⟨v', h1, h2⟩ := h.2 _ v hv
  exact ⟨v', by rw [List.getElem?_drop, h1], h2⟩
theorem VRs.set {a a' : List Value} (h : VRs ι a a') (n : Nat) {v v' : Value} (k : VR ι v v') : VRs ι (a.set n v) (a'.set n v') := by
  refine ⟨by simp [h.1], fun j u hu => ?_⟩
  rw [List.getElem?_set] at hu
  split at hu
  · subst_vars
    split at hu
    · rename_i hl; simp at hu; subst hu; exact ⟨v', by simp [← h.1, hl], k⟩
    · cases hu
  · rename_i hne
    obtain ⟨u', h1, h2⟩ := h.2 j u hu
    exact ⟨u', by rw [List.getElem?_set, if_neg hne, h1], h2⟩
theorem VRs.arr {l l' : List Value} (h : VRs ι l l') : ∀ j (h1 : j < l.toArray.size) (h2 : j < l'.toArray.size), VR ι l.toArray[j] l'.toArray[j] := by
  intro j h1 h2
  have h1' : j < l.length := by simpa using h1
  obtain ⟨v', e, k⟩ := h.2 j l[j] (List.getElem?_eq_getElem h1')
  have h2' : j < l'.length := by simpa using h2
  rw [List.getElem?_eq_getElem h2'] at e
  cases e
  simpa using k
theorem VRs.of_arr {a a' : Array Value} (hs : a.size = a'.size) (h : ∀ j (h1 : j < a.size) (h2 : j < a'.size), VR ι a[j] a'[j]) : VRs ι a.toList a'.toList := by
  refine ⟨by simpa using hs, fun j v hv => ?_⟩
  obtain ⟨h1, rfl⟩ := List.getElem?_eq_some_iff.1 hv
  have h1' : j < a.size := by simpa using h1
  exact ⟨a'[j]'(by omega), by simp [show j < a'.size by omega], by simpa using h j h1' (by omega)⟩
theorem VRs.size {a a' : List Value} (h : VRs ι a a') : a'.length = a.length := h.1.symm
/-- by shape -/
theorem VR.agg_inv {cs : Array Value} {v' : Value} (h : VR ι (.agg cs) v') : ∃ ds, v' = .agg ds ∧ VRs ι cs.toList ds.toList := by
  cases h with
  | lit h => simp [litFlat] at h
  | agg hs k => exact ⟨_, rfl, .of_arr hs k⟩
theorem VR.tup_inv {cs : Array Value} {v' : Value} (h : VR ι (.tuple cs) v') : ∃ ds, v' = .tuple ds ∧ VRs ι cs.toList ds.toList := by
  cases h with
  | lit h => simp [litFlat] at h
  | tup hs k => exact ⟨_, rfl, .of_arr hs k⟩
theorem VR.int_inv {k : IntKind} {n : Int} {v' : Value} (h : VR ι (.int k n) v') : v' = .int k n := by cases h; rfl
theorem VR.bool_inv {b : Bool} {v' : Value} (h : VR ι (.bool b) v') : v' = .bool b := by cases h; rfl
theorem VR.str_inv {s : ByteArray} {v' : Value} (h : VR ι (.string s) v') : v' = .string s := by cases h; rfl
theorem VR.ptr_inv {i o : Nat} {v' : Value} (h : VR ι (.pointer (some ⟨i, o, none⟩)) v') : ∃ l, ι i = some l ∧ v' = .pointer (some ⟨l.block, l.off + o, none⟩) := by
  cases h with
  | lit h => simp [litFlat] at h
  | ptr h => exact ⟨_, h, rfl⟩
theorem VR.ptrN_inv {v' : Value} (h : VR ι (.pointer none) v') : v' = .pointer none := by cases h; rfl
theorem VR.ptrS_inv {a : Addr} {v' : Value} (h : VR ι (.pointer (some a)) v') : ∃ b, v' = .pointer (some b) := by
  cases h with
  | lit h => simp [litFlat] at h
  | ptr h => exact ⟨_, rfl⟩
theorem VR.slS_inv {a : Addr} {n c : Nat} {v' : Value} (h : VR ι (.slice (some a) n c) v') : ∃ b c', v' = .slice (some b) n c' := by
  cases h with
  | lit h => simp [litFlat] at h
  | slV h => exact ⟨_, _, rfl⟩
  | sl h => exact ⟨_, _, rfl⟩
theorem VR.slN_inv {n c : Nat} {v' : Value} (h : VR ι (.slice none n c) v') : n = 0 ∧ c = 0 ∧ v' = .slice none 0 0 := by
  cases h with
  | lit h => simp [litFlat] at h; obtain ⟨rfl, rfl⟩ := h; exact ⟨rfl, rfl, rfl⟩
theorem VR.func_inv {fn : Fn} {a b : Array Value} {v' : Value} (h : VR ι (.func fn a b) v') : ∃ a' b', v' = .func fn a' b' ∧ VRs ι a.toList a'.toList ∧ VRs ι b.toList b'.toList := by
  cases h with
  | lit h => simp [litFlat] at h
  | func hs h ht k => exact ⟨_, _, rfl, .of_arr hs h, .of_arr ht k⟩
theorem VR.agg_of {l l' : List Value} (h : VRs ι l l') : VR ι (.agg l.toArray) (.agg l'.toArray) := .agg (by simpa using h.1) h.arr
theorem VR.tup_of {l l' : List Value} (h : VRs ι l l') : VR ι (.tuple l.toArray) (.tuple l'.toArray) := .tup (by simpa using h.1) h.arr
theorem flatV_lit {v : Value} (h : litFlat v = true) : flatV v = true := by
  cases v <;> simp_all [litFlat, flatV]
theorem VR.flat {v v' : Value} (h : VR ι v v') (hf : flatV v = true) : flatV v' = true ∧ v'.oneCell' = true := by
  cases h with
  | lit h => cases v <;> simp_all [flatV, Value.oneCell']
  | _ => simp_all [flatV, Value.oneCell']
theorem VR.flat_cells {v : Value} (hf : flatV v = true) : v.cells.toList = [v] := by
  cases v <;> simp_all [flatV, Value.cells]
theorem VR.cells {v v' : Value} (h : VR ι v v') (hf : ∀ u ∈ v.cells.toList, flatV u = true) : VRs ι v.cells.toList v'.cells.toList := by
  cases h with
  | agg hs k => exact VRs.of_arr hs k
  | tup hs k => simp [Value.cells, flatV] at hf
  | lit h =>
    have := flatV_lit h
    rw [VR.flat_cells this]; exact .cons (.lit h) .nil
  | ptr h => exact .cons (.ptr h) .nil
  | slV h => exact .cons (.slV h) .nil
  | sl h hn hg hb => exact .cons (.sl h hn hg hb) .nil
  | func hs h ht k => exact .cons (.func hs h ht k) .nil
theorem VRs.lits {l : List Value} (h : ∀ v ∈ l, litFlat v = true) : VRs ι l l := ⟨rfl, fun j v hv => ⟨v, hv, .lit (h v (List.mem_of_getElem? hv))⟩⟩
theorem VR.litOk {v : Value} (h : litOk v = true) : VR ι v v := by
  cases v <;> first
    | exact .lit h
    | skip
  · rename_i cs
    simp only [Gh.litOk, Array.all_eq_true] at h
    exact .agg rfl fun j h1 _ => .lit (h j h1)
  · rename_i cs
    simp only [Gh.litOk, Array.isEmpty_iff] at h
    subst h
    exact .tup rfl fun j h1 _ => by simp at h1
theorem VRs.flat {l l' : List Value} (h : VRs ι l l') (hf : ∀ v ∈ l, flatV v = true) : ∀ v ∈ l', v.oneCell' = true := by
  intro v hv
  obtain ⟨j, hj⟩ := List.getElem?_of_mem hv
  have hl := (List.getElem?_eq_some_iff.1 hj).1
  have hl' : j < l.length := by have := h.1; omega
  obtain ⟨u, hu, hr⟩ := h.2 j l[j] (List.getElem?_eq_getElem hl')
  rw [hj] at hu
  cases hu
  exact (hr.flat (hf _ (List.getElem_mem hl'))).2
end

def GObj.owned : GObj → Bool
  | .cells _ _ own => own
  | .iter _ _ => true
  | .dead _ => false
def GObj.live : GObj → Bool
  | .dead _ => false
  | _ => true
section
variable (P : Program) (base lim : Nat) (ι : Inj)
def ObjR (i : Nat) (l : GLoc) (w : World) : GObj → Prop
  | .dead u => l.unit = usz u
  | .iter s pos => l.unit = 0 ∧ l.off = 0 ∧ w.heap[l.block]? = some (.stringIter s pos) ∧ (lim ≤ i → base ≤ l.block)
  | .cells cs u own => l.unit = usz u ∧ (∀ (j : Nat) v, cs[j]? = some v → flatV v = true ∧ ∃ v', w.cell? ⟨l.block, l.off + j, none⟩ = some v' ∧ VR ι v v') ∧
      (own = true → lim ≤ i → base ≤ l.block ∧ l.off + cs.length ≤ l.size ∧ ∃ C t fr, w.heap[l.block]? = some (.cells C t fr) ∧ C.size = l.size ∧ (fr.1 = fr.2 ∨ C.size ≤ fr.1) ∧ (u = 257 → t = P.rt.byte))
structure HR (t : Tr GObj) (w : World) : Prop where
  low : base ≤ w.heap.size
  blk : ∀ i l, ι i = some l → l.block < w.heap.size
  obj : ∀ i l o, ι i = some l → t.get i = some o → ObjR P base lim ι i l w o
  sep : ∀ i l o j l' o', ι i = some l → t.get i = some o → ι j = some l' → t.get j = some o' → i ≠ j → lim ≤ i → o.owned = true → o'.live = true → l'.block ≠ l.block
  glob : ∀ g, gOn P g = true → ∃ l, ι g = some l ∧ l.block = g ∧ l.off = 0
end

/-- all blocks of w lie in w' as they were -/
def Le (w w' : World) : Prop := Below w.heap.size w w'
section
variable {P : Program} {base lim : Nat} {ι ι' : Inj} {t t' : Tr GObj} {w w' w'' : World}
theorem Le.refl (w : World) : Le w w := Below.refl _ _
theorem Le.trans (h : Le w w') (k : Le w' w'') : Le w w'' := Below.trans h (k.mono h.size)
theorem Le.drew (w : World) : Le w w.drew := (Below.refl _ w).drew
theorem Le.alloc (w : World) (o : Obj) : Le w (w.alloc o) := (Below.refl _ w).alloc (Nat.le_refl _) o
theorem cell_same {a : Addr} (h : w'.heap[a.block]? = w.heap[a.block]?) : w'.cell? a = w.cell? a := World.cell?_of_block h

theorem ObjR.keep {i : Nat} {l : GLoc} {o : GObj} (h : ObjR P base lim ι i l w o) (hle : ι.le ι') (hw : w'.heap[l.block]? = w.heap[l.block]?) : ObjR P base lim ι' i l w' o := by
  cases o with
  | dead u => exact h
  | iter s pos => obtain ⟨h1, h2, h3, h4⟩ := h; exact ⟨h1, h2, by rw [hw]; exact h3, h4⟩
  | cells cs u own =>
    obtain ⟨h1, h2, h3⟩ := h
    refine ⟨h1, fun j v hv => ?_, fun a b => ?_⟩
    · obtain ⟨h4, v', h5, h6⟩ := h2 j v hv
      exact ⟨h4, v', by rw [cell_same (a := ⟨l.block, l.off + j, none⟩) hw]; exact h5, h6.mono hle⟩
    · obtain ⟨h4, h4', C, ty, fr, h5, h6⟩ := h3 a b
      exact ⟨h4, h4', C, ty, fr, by rw [hw]; exact h5, h6⟩
/-- what holds of a dead object holds of every live one of the same unit -/
theorem ObjR.kill {i : Nat} {l : GLoc} {o : GObj} (h : ObjR P base lim ι i l w o) : ObjR P base lim ι i l w (.dead o.unit) := by
  cases o with
  | dead u => exact h
  | iter s pos => exact h.1.trans (by simp [GObj.unit, usz])
  | cells cs u own => exact h.1
theorem HR.le (h : HR P base lim ι t w) (hl : Le w w') : HR P base lim ι t w' :=
  ⟨Nat.le_trans h.low hl.size, fun i l e => Nat.lt_of_lt_of_le (h.blk i l e) hl.size, fun i l o e f => (h.obj i l o e f).keep (Inj.le.refl _) (hl.block _ (h.blk i l e)), h.sep, h.glob⟩
/-- one new object, where nothing live lies -/
theorem HR.new (h : HR P base lim ι t w) {n : Nat} {L : GLoc} {o : GObj} (hn : ι n = none) (hfree : ∀ j l o', ι j = some l → t.get j = some o' → o'.live = true → l.block ≠ L.block)
    (hsz : w.heap.size ≤ w'.heap.size) (hw : ∀ k, k < w.heap.size → k ≠ L.block → w'.heap[k]? = w.heap[k]?) (hL : L.block < w'.heap.size) (ho : ObjR P base lim (ι.upd n L) n L w' o) :
    HR P base lim (ι.upd n L) (t.set n o) w' := by
  have hle := Inj.le_upd L hn
  refine ⟨Nat.le_trans h.low hsz, fun i l e => ?_, fun i l o' e f => ?_, fun i l o1 j l' o2 e f e' f' hij hlim h1 h2 => ?_, fun g hg => ?_⟩
  · by_cases hi : i = n
    · subst hi; rw [Inj.upd_same] at e; cases e; exact hL
    · rw [Inj.upd_ne _ _ hi] at e; exact Nat.lt_of_lt_of_le (h.blk i l e) hsz
  · by_cases hi : i = n
    · subst hi
      rw [Inj.upd_same] at e; cases e
      rw [Tr.get_set_same] at f; cases f
      exact ho
    · rw [Inj.upd_ne _ _ hi] at e
      rw [Tr.get_set_ne _ _ (Ne.symm hi)] at f
      have hr := h.obj i l o' e f
      cases hlv : o'.live with
      | true => exact hr.keep hle (hw _ (h.blk i l e) (hfree i l o' e f hlv))
      | false => cases o' <;> first | exact hr | (simp [GObj.live] at hlv)
  · by_cases hi : i = n
    · subst hi
      rw [Inj.upd_same] at e; cases e
      rw [Inj.upd_ne _ _ (Ne.symm hij)] at e'
      rw [Tr.get_set_ne _ _ hij] at f'
      exact hfree j l' o2 e' f' h2
    · rw [Inj.upd_ne _ _ hi] at e
      rw [Tr.get_set_ne _ _ (Ne.symm hi)] at f
      by_cases hj : j = n
      · subst hj
        rw [Inj.upd_same] at e'; cases e'
        refine Ne.symm (hfree i l o1 e f ?_)
        cases o1 <;> simp_all [GObj.owned, GObj.live]
      · rw [Inj.upd_ne _ _ hj] at e'
        rw [Tr.get_set_ne _ _ (Ne.symm hj)] at f'
        exact h.sep i l o1 j l' o2 e f e' f' hij hlim h1 h2
  · obtain ⟨l, e, k⟩ := h.glob g hg
    exact ⟨l, hle _ _ e, k⟩
/-- one new object in a new block -/
theorem HR.fresh (h : HR P base lim ι t w) {n : Nat} {L : GLoc} {o : GObj} (hn : ι n = none) (hl : Le w w') (hL : w.heap.size ≤ L.block) (hL' : L.block < w'.heap.size)
    (ho : ObjR P base lim (ι.upd n L) n L w' o) : HR P base lim (ι.upd n L) (t.set n o) w' :=
  h.new hn (fun j l o' e _ _ => by have := h.blk j l e; omega) hl.size (fun k hk _ => hl.block k hk) hL' ho
/-- an object of one's own turns -/
theorem HR.turn (h : HR P base lim ι t w) {i : Nat} {l : GLoc} {o o' : GObj} (hi : ι i = some l) (ht : t.get i = some o) (hlim : lim ≤ i) (hown : o.owned = true)
    (hsz : w'.heap.size = w.heap.size) (hw : ∀ k, k ≠ l.block → w'.heap[k]? = w.heap[k]?) (ho : ObjR P base lim ι i l w' o') : HR P base lim ι (t.set i o') w' := by
  refine ⟨by rw [hsz]; exact h.low, fun j l' e => by rw [hsz]; exact h.blk j l' e, fun j l' o2 e f => ?_, fun a la oa b lb ob e f e' f' hab hl h1 h2 => ?_, h.glob⟩
  · by_cases hj : j = i
    · subst hj
      rw [hi] at e; cases e
      rw [Tr.get_set_same] at f; cases f
      exact ho
    · rw [Tr.get_set_ne _ _ (Ne.symm hj)] at f
      have hr := h.obj j l' o2 e f
      cases hlv : o2.live with
      | true => exact hr.keep (Inj.le.refl _) (hw _ (h.sep i l o j l' o2 hi ht e f (Ne.symm hj) hlim hown hlv))
      | false => cases o2 <;> first | exact hr | (simp [GObj.live] at hlv)
  · have ha : ∃ o1, t.get a = some o1 ∧ o1.owned = true := by
      by_cases hai : a = i
      · subst hai; exact ⟨o, ht, hown⟩
      · rw [Tr.get_set_ne _ _ (Ne.symm hai)] at f; exact ⟨oa, f, h1⟩
    have hb : ∃ o2, t.get b = some o2 ∧ o2.live = true := by
      by_cases hbi : b = i
      · subst hbi; exact ⟨o, ht, by cases o <;> simp_all [GObj.owned, GObj.live]⟩
      · rw [Tr.get_set_ne _ _ (Ne.symm hbi)] at f'; exact ⟨ob, f', h2⟩
    obtain ⟨o1, g1, g2⟩ := ha
    obtain ⟨o2, g3, g4⟩ := hb
    exact h.sep a la o1 b lb o2 e g1 e' g3 hab hl g2 g4
/-- objects that die, or are hidden -/
theorem HR.kill (h : HR P base lim ι t w) {i : Nat} {o : GObj} (ht : t.get i = some o) : HR P base lim ι (t.set i (.dead o.unit)) w := by
  refine ⟨h.low, h.blk, fun j l' o2 e f => ?_, fun a la oa b lb ob e f e' f' hab hl h1 h2 => ?_, h.glob⟩
  · by_cases hj : j = i
    · subst hj
      rw [Tr.get_set_same] at f; cases f
      exact (h.obj j l' o e ht).kill
    · rw [Tr.get_set_ne _ _ (Ne.symm hj)] at f
      exact h.obj j l' o2 e f
  · have hai : a ≠ i := by rintro rfl; rw [Tr.get_set_same] at f; cases f; simp [GObj.owned] at h1
    have hbi : b ≠ i := by rintro rfl; rw [Tr.get_set_same] at f'; cases f'; simp [GObj.live] at h2
    rw [Tr.get_set_ne _ _ (Ne.symm hai)] at f
    rw [Tr.get_set_ne _ _ (Ne.symm hbi)] at f'
    exact h.sep a la oa b lb ob e f e' f' hab hl h1 h2
/-- with a greater limit, over whatever base: what may not be written is asked nothing more -/
theorem HR.shut (h : HR P base lim ι t w) (lim' base' : Nat) (hb : base' ≤ w.heap.size) (hn : ∀ i, lim' ≤ i → ι i = none) : HR P base' lim' ι t w := by
  refine ⟨hb, h.blk, fun i l o e f => ?_, fun a la oa b lb ob e f e' f' hab hl h1 h2 => ?_, h.glob⟩
  · have hi : ¬ lim' ≤ i := fun hh => by rw [hn i hh] at e; cases e
    have := h.obj i l o e f
    cases o with
    | dead u => exact this
    | iter s pos => exact ⟨this.1, this.2.1, this.2.2.1, fun hh => absurd hh hi⟩
    | cells cs u own => exact ⟨this.1, this.2.1, fun _ hh => absurd hh hi⟩
  · rw [hn a hl] at e; cases e
/-- the world only grew, and objects beyond are not asked for -/
theorem HR.some_ (h : HR P base lim ι t w) {ι1 : Inj} (hle : ι1.le ι) (hle' : ∀ i l, ι1 i = some l → ι i = some l) (ht : ∀ i l o, ι1 i = some l → t'.get i = some o → t.get i = some o ∨ ∃ o1, t.get i = some o1 ∧ o = .dead o1.unit)
    (hv : ∀ i l o, ι1 i = some l → t'.get i = some o → o.live = true → ObjR P base lim ι1 i l w o) (hg : ∀ g, gOn P g = true → ∃ l, ι1 g = some l ∧ l.block = g ∧ l.off = 0) : HR P base lim ι1 t' w := by
  refine ⟨h.low, fun i l e => h.blk i l (hle _ _ e), fun i l o e f => ?_, fun a la oa b lb ob e f e' f' hab hl h1 h2 => ?_, hg⟩
  · cases hlv : o.live with
    | true => exact hv i l o e f hlv
    | false =>
      rcases ht i l o e f with h1 | ⟨o1, h1, h2⟩
      · have := h.obj i l o (hle _ _ e) h1
        cases o <;> first | exact this | (simp [GObj.live] at hlv)
      · have := (h.obj i l o1 (hle _ _ e) h1).kill
        rw [h2]; exact this
  · have ha : t.get a = some oa := by
      rcases ht a la oa e f with g | ⟨o1, _, g2⟩
      · exact g
      · subst g2; simp [GObj.owned] at h1
    have hb : t.get b = some ob := by
      rcases ht b lb ob e' f' with g | ⟨o1, _, g2⟩
      · exact g
      · subst g2; simp [GObj.live] at h2
    exact h.sep a la oa b lb ob (hle _ _ e) ha (hle _ _ e') hb hab hl h1 h2
end

/-! ### frames -/
def FR (ι : Inj) (fr : Fr) (a : Act) : Prop := a.defers = [] ∧ ∀ n v, fr.get n = some v → ∃ v', a.tmps[n]? = some v' ∧ VR ι v v'
section
variable {ι ι' : Inj} {fr : Fr} {a : Act}
theorem FR.mono (h : FR ι fr a) (hle : ι.le ι') : FR ι' fr a := ⟨h.1, fun n v e => let ⟨v', h1, h2⟩ := h.2 n v e; ⟨v', h1, h2.mono hle⟩⟩
theorem FR.put (h : FR ι fr a) {v v' : Value} (hv : VR ι v v') {dst : Option Nat} (hd : ∀ d, dst = some d → d < a.tmps.size) : FR ι (gput fr dst v) (a.put dst v') := by
  cases dst with
  | none => exact h
  | some d =>
    refine ⟨h.1, fun n u e => ?_⟩
    have hd := hd d rfl
    simp only [gput, Tr.get_set] at e
    by_cases hdn : d = n
    · subst hdn
      rw [if_pos rfl] at e
      cases e
      exact ⟨v', by simp [Act.put, hd], hv⟩
    · rw [if_neg hdn] at e
      obtain ⟨u', h1, h2⟩ := h.2 n u e
      exact ⟨u', by simp [Act.put, Array.getElem?_setIfInBounds_ne hdn, h1], h2⟩
theorem put_size (a : Act) (dst : Option Nat) (v : Value) : (a.put dst v).tmps.size = a.tmps.size := by cases dst <;> simp [Act.put]
end
end Go.Gh
