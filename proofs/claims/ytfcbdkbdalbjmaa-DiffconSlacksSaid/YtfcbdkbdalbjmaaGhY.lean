/-
  Rows of a ghost heap, read as lists.
-/
import Derived.Test.YtfcbdkbdalbjmaaGhX
namespace Go.Gh
set_option linter.unusedVariables false
set_option linter.unusedSimpArgs false
open Go.RowKit

section
variable {H H' H0 : GHeap}
def csOf : GObj → Option (List Value)
  | .cells cs _ _ => some cs
  | _ => none
theorem cs_put (i j : Nat) (o : GObj) : (H.put i o).cs j = if i = j then csOf o else H.cs j := by
  unfold GHeap.cs
  rw [obj_put]
  by_cases h : i = j
  · simp only [h, if_true]; cases o <;> rfl
  · simp only [h, if_false]
theorem cs_add (j : Nat) (o : GObj) : (H.add (some o)).cs j = if H.len = j then csOf o else H.cs j := by
  unfold GHeap.cs
  rw [obj_add]
  by_cases h : H.len = j
  · simp only [h, if_true]; cases o <;> rfl
  · simp only [h, if_false]
theorem Same.cs (h : Same H H') {i : Nat} (hi : i < H.len) : H'.cs i = H.cs i := by unfold GHeap.cs; rw [h.obj i hi]
theorem Same.add (h : Same H0 H) (o : GObj) : Same H0 (H.add (some o)) := by
  have hF := Fwd.add h.wf (some o)
  refine ⟨hF.lim.trans h.lim, Nat.le_trans h.len hF.len, fun i hi => ?_, hF.wf h.wf⟩
  rw [obj_add, if_neg (by have := h.len; omega)]
  exact h.obj i hi
theorem Same.put (h : Same H0 H) {i : Nat} (h1 : H0.len ≤ i) (h2 : i < H.len) (o : GObj) : Same H0 (H.put i o) := by
  refine ⟨h.lim, h.len, fun j hj => ?_, ⟨h.wf.1, fun j => ?_⟩⟩
  · rw [obj_put, if_neg (by omega)]; exact h.obj j hj
  · rw [obj_put]
    by_cases hij : i = j
    · subst hij; simp; exact h2
    · rw [if_neg hij]; exact h.wf.2 j
theorem gst_new {n i : Nat} {z : List Value} {u : Nat} {vs : Array Value} (hl : H.lim ≤ i) (ho : H.obj i = some (.cells z u true)) (hz : z.length = n) (hv : vs.size = n) (hf : vs.all flatV = true) :
    gst (some n) H (.pointer (some ⟨i, 0, none⟩)) (.agg vs) = some (H.put i (.cells vs.toList u true)) := by
  have : z.drop n = [] := by rw [← hz]; simp
  simp only [gst, GHeap.mine, hl, ho, if_true]
  rw [if_pos ⟨hv, by omega, hf⟩]
  simp [this]
/-- a new variable and what is stored into it -/
theorem gst_add {n : Nat} {z : List Value} {u : Nat} {vs : Array Value} (hw : H.wf) (hz : z.length = n) (hv : vs.size = n) (hf : vs.all flatV = true) :
    gst (some n) (H.add (some (.cells z u true))) (.pointer (some ⟨H.len, 0, none⟩)) (.agg vs) = some ((H.add (some (.cells z u true))).put H.len (.cells vs.toList u true)) :=
  gst_new (H := H.add (some (.cells z u true))) hw.1 (by rw [obj_add]; simp) hz hv hf
theorem Same.new (h : Same H0 H) (o o' : GObj) : Same H0 ((H.add (some o)).put H.len o') := (h.add o).put h.len (by simp [GHeap.add]) o'
theorem cs_new (o : GObj) (cs : List Value) (u : Nat) (own : Bool) : ((H.add (some o)).put H.len (.cells cs u own)).cs H.len = some cs := by rw [cs_put]; simp [csOf]
theorem gld_cell {i o : Nat} {cs : List Value} (h : H.cs i = some cs) : gld none H (.pointer (some ⟨i, o, none⟩)) = cs[o]? := by simp [gld, h]
theorem gld_part {i o n : Nat} {cs : List Value} (h : H.cs i = some cs) (hn : o + n ≤ cs.length) : gld (some n) H (.pointer (some ⟨i, o, none⟩)) = some (.agg ((cs.drop o).take n).toArray) := by simp [gld, h, hn]

/-- a slice that reads as n elements of 'size' cells: xs, all in elder memory -/
def GRd (H : GHeap) (size : Nat) (v : Value) (n : Nat) (xs : List Value) : Prop :=
  xs.length = n * size ∧ ∃ a gc, v = .slice a n gc ∧ (0 < n → ∃ i o cs, a = some ⟨i, o, none⟩ ∧ i < H.len ∧ H.cs i = some cs ∧ ∀ j u, xs[j]? = some u → cs[o + j]? = some u)
theorem GRd.same {size n : Nat} {v : Value} {xs : List Value} (h : GRd H size v n xs) (hs : Same H H') : GRd H' size v n xs := by
  obtain ⟨h1, a, gc, h2, h3⟩ := h
  refine ⟨h1, a, gc, h2, fun hn => ?_⟩
  obtain ⟨i, o, cs, k1, k2, k3, k4⟩ := h3 hn
  exact ⟨i, o, cs, k1, Nat.lt_of_lt_of_le k2 hs.len, by rw [hs.cs k2]; exact k3, k4⟩
theorem GRd.len {size n : Nat} {v : Value} {xs : List Value} (h : GRd H size v n xs) : glen false v = some (.int .i64 n) := by
  obtain ⟨_, a, gc, rfl, _⟩ := h; rfl
theorem drop_take_eq {xs cs : List Value} {o k n : Nat} (hx : k + n ≤ xs.length) (h : ∀ (j : Nat) u, xs[j]? = some u → cs[o + j]? = some u) : (cs.drop (o + k)).take n = (xs.drop k).take n ∧ (n ≠ 0 → o + k + n ≤ cs.length) := by
  constructor
  · refine List.ext_getElem? fun j => ?_
    by_cases hj : j < n
    · rw [List.getElem?_take_of_lt hj, List.getElem?_take_of_lt hj, List.getElem?_drop, List.getElem?_drop]
      have h1 := List.getElem?_eq_getElem (show k + j < xs.length by omega)
      rw [h1, Nat.add_assoc]
      exact h _ _ h1
    · rw [List.getElem?_take_eq_none (by omega), List.getElem?_take_eq_none (by omega)]
  · intro hn
    have h1 := List.getElem?_eq_getElem (show k + (n - 1) < xs.length by omega)
    have := (List.getElem?_eq_some_iff.1 (h _ _ h1)).1
    omega
/-- an element's address, and what lies there -/
theorem GRd.at_ {size n : Nat} {v : Value} {xs : List Value} (h : GRd H size v n xs) (hs : 0 < size) {k : Nat} (hk : k < n) :
    ∃ i o, i < H.len ∧ (∀ (kd : IntKind) (z : Int), z = k → gia none size v (.int kd z) = some (.pointer (some ⟨i, o, none⟩))) ∧ gld (some size) H (.pointer (some ⟨i, o, none⟩)) = some (.agg ((xs.drop (k * size)).take size).toArray) ∧
      ∀ j u, xs[k * size + j]? = some u → gld none H (.pointer (some ⟨i, o + j, none⟩)) = some u := by
  obtain ⟨h1, a, gc, rfl, h3⟩ := h
  obtain ⟨i, o, cs, rfl, k2, k3, k4⟩ := h3 (by omega)
  have hx : k * size + size ≤ xs.length := by rw [h1, ← Nat.succ_mul]; exact Nat.mul_le_mul_right _ hk
  obtain ⟨e1, e2⟩ := drop_take_eq (k := k * size) (n := size) hx k4
  refine ⟨i, o + k * size, k2, fun kd z hz => ?_, ?_, fun j u hu => ?_⟩
  · subst hz
    simp [gia, hk]
  · rw [gld_part k3 (e2 (by omega)), e1]
  · rw [gld_cell k3, Nat.add_assoc]
    exact k4 _ _ hu
end
end Go.Gh
