/-
  Rows of rows of numbers in ghost memory.
-/
import Derived.Test.YtbhgpiakeimmlaaDoorRbW6
namespace Go.Gh
set_option linter.unusedSimpArgs false
set_option linter.unusedVariables false
open Go.RowKit

def slv (n i : Nat) : Value := .slice (some ⟨i, 0, none⟩) n (n + 1)
/-- a row of s slices, the first of which are set -/
def tab (s : Nat) (ids : List Nat) (n : Nat) : List Value := (List.range s).map fun k => if k < ids.length then slv n ids[k]! else .slice none 0 0
theorem tab_len {s : Nat} {ids : List Nat} {n : Nat} : (tab s ids n).length = s := by simp [tab]
theorem tab_get {s : Nat} {ids : List Nat} {n k : Nat} (hs : k < s) (h : k < ids.length) : (tab s ids n)[k]? = some (.slice (some ⟨ids[k]!, 0, none⟩) n (n + 1)) := by
  simp only [tab, List.getElem?_map, List.getElem?_range hs, Option.map_some, if_pos h]; rfl
theorem snoc_get {ids : List Nat} {x k : Nat} (h : k < ids.length) : (ids ++ [x])[k]! = ids[k]! := by
  rw [getElem!_pos _ k (by simp; omega), getElem!_pos ids k h, List.getElem_append_left h]
theorem snoc_last {ids : List Nat} {x : Nat} : (ids ++ [x])[ids.length]! = x := by
  rw [getElem!_pos _ _ (by simp)]; simp
theorem tab_snoc {s : Nat} {ids : List Nat} {n x : Nat} (h : ids.length < s) : (tab s ids n).set ids.length (slv n x) = tab s (ids ++ [x]) n := by
  refine List.ext_getElem? fun k => ?_
  rw [List.getElem?_set]
  by_cases hk : ids.length = k
  · subst hk
    rw [if_pos rfl, if_pos (by rw [tab_len]; exact h), tab_get h (by simp), snoc_last]; rfl
  · rw [if_neg hk]
    by_cases hs : k < s
    · simp only [tab, List.getElem?_map, List.getElem?_range hs, Option.map_some]
      by_cases h2 : k < ids.length
      · rw [if_pos h2, if_pos (by simp; omega), snoc_get h2]
      · rw [if_neg h2, if_neg (by simp; omega)]
    · rw [List.getElem?_eq_none (by rw [tab_len]; omega), List.getElem?_eq_none (by rw [tab_len]; omega)]
theorem tab_nil {s n : Nat} : tab s [] n = List.replicate s (.slice none 0 0) := by
  refine List.ext_getElem? fun k => ?_
  by_cases hs : k < s
  · simp [tab, hs, List.getElem?_replicate]
  · rw [List.getElem?_eq_none (by rw [tab_len]; omega), List.getElem?_eq_none (by simp; omega)]
/-- a table of rows, all of one's own and younger than H -/
structure RS (H H1 : GHeap) (io s n : Nat) (ids : List Nat) (rows : Nat → List Int) : Prop where
  same : Same H H1
  io1 : H.len ≤ io
  io2 : io < H1.len
  len : ids.length ≤ s
  out : H1.mine io = some (tab s ids n, 1)
  id : ∀ k, k < ids.length → H.len ≤ ids[k]! ∧ ids[k]! < H1.len ∧ ids[k]! ≠ io
  dist : ∀ k k', k < ids.length → k' < ids.length → k ≠ k' → ids[k]! ≠ ids[k']!
  row : ∀ k, k < ids.length → H1.mine ids[k]! = some (ints .i64 (rows k), 1)
def updR (rows : Nat → List Int) (k : Nat) (x : List Int) : Nat → List Int := fun j => if j = k then x else rows j
theorem updR_same (rows : Nat → List Int) (k : Nat) (x : List Int) : updR rows k x k = x := if_pos rfl
theorem updR_ne (rows : Nat → List Int) {k j : Nat} (x : List Int) (h : j ≠ k) : updR rows k x j = rows j := if_neg h
section
variable {H H1 : GHeap} {io s n : Nat} {ids : List Nat} {rows : Nat → List Int}
theorem RS.local_ (h : RS H H1 io s n ids rows) (o o' : GObj) : RS H ((H1.add (some o)).put H1.len o') io s n ids rows := by
  have hm : ∀ j, j < H1.len → ((H1.add (some o)).put H1.len o').mine j = H1.mine j := fun j hj => by rw [mine_put_ne (by omega), mine_add_ne (by omega)]
  exact ⟨h.same.new _ _, h.io1, Nat.lt_succ_of_lt h.io2, h.len, by rw [hm _ h.io2]; exact h.out, fun k hk => ⟨(h.id k hk).1, Nat.lt_succ_of_lt (h.id k hk).2.1, (h.id k hk).2.2⟩, h.dist, fun k hk => by rw [hm _ (h.id k hk).2.1]; exact h.row k hk⟩
theorem RS.set_ (h : RS H H1 io s n ids rows) {k : Nat} (hk : k < ids.length) (x : List Int) : RS H (H1.put ids[k]! (.cells (ints .i64 x) 1 true)) io s n ids (updR rows k x) := by
  obtain ⟨h1, h2, h3⟩ := h.id k hk
  refine ⟨h.same.put h1 h2 _, h.io1, h.io2, h.len, by rw [mine_put_ne h3]; exact h.out, h.id, h.dist, fun j hj => ?_⟩
  by_cases e : j = k
  · subst e
    rw [updR_same]
    exact mine_put_same (mine_obj (h.row j hj)).1
  · rw [updR_ne _ _ e, mine_put_ne (h.dist k j hk hj (Ne.symm e))]; exact h.row j hj
theorem RS.snoc (h : RS H H1 io s n ids rows) (hl : ids.length < s) (x : List Int) : RS H ((H1.add (some (.cells (ints .i64 x) 1 true))).put io (.cells (tab s (ids ++ [H1.len]) n) 1 true)) io s n (ids ++ [H1.len]) (updR rows ids.length x) := by
  have hio : H1.lim ≤ io := (mine_obj h.out).1
  have hlim : H1.lim ≤ H1.len := h.same.wf.1
  refine ⟨(h.same.add _).put h.io1 (Nat.lt_succ_of_lt h.io2) _, h.io1, Nat.lt_succ_of_lt h.io2, by simp; omega, mine_put_same hio, fun k hk => ?_, fun k k' hk hk' hne => ?_, fun k hk => ?_⟩
  · simp at hk
    rcases Nat.lt_succ_iff_lt_or_eq.1 hk with hk | rfl
    · rw [snoc_get hk]
      exact ⟨(h.id k hk).1, Nat.lt_succ_of_lt (h.id k hk).2.1, (h.id k hk).2.2⟩
    · rw [snoc_last]
      exact ⟨h.same.len, Nat.lt_succ_self _, by have := h.io2; omega⟩
  · simp at hk hk'
    rcases Nat.lt_succ_iff_lt_or_eq.1 hk with hk | rfl <;> rcases Nat.lt_succ_iff_lt_or_eq.1 hk' with hk' | rfl
    · rw [snoc_get hk, snoc_get hk']; exact h.dist k k' hk hk' hne
    · rw [snoc_get hk, snoc_last]; exact Nat.ne_of_lt (h.id k hk).2.1
    · rw [snoc_get hk', snoc_last]; exact Nat.ne_of_gt (h.id k' hk').2.1
    · exact absurd rfl hne
  · simp at hk
    rcases Nat.lt_succ_iff_lt_or_eq.1 hk with hk | rfl
    · rw [snoc_get hk, updR_ne _ _ (by omega), mine_put_ne (Ne.symm (h.id k hk).2.2), mine_add_ne (by have := (h.id k hk).2.1; omega)]; exact h.row k hk
    · rw [snoc_last, updR_same, mine_put_ne (by have := h.io2; omega)]
      exact mine_add_eq rfl hlim
theorem RS.congr (h : RS H H1 io s n ids rows) {rows' : Nat → List Int} (e : ∀ k, k < ids.length → rows k = rows' k) : RS H H1 io s n ids rows' :=
  ⟨h.same, h.io1, h.io2, h.len, h.out, h.id, h.dist, fun k hk => by rw [h.row k hk, e k hk]⟩
/-- what a caller is told of a table -/
def RowsOut (H : GHeap) (v : Value) (m n : Nat) (rows : Nat → List Int) : Prop :=
  ∃ i gc ids, v = .slice (some ⟨i, 0, none⟩) m gc ∧ i < H.len ∧ H.cs i = some (tab m ids n) ∧ m = ids.length ∧ ∀ k, k < m → ids[k]! < H.len ∧ H.cs ids[k]! = some (ints .i64 (rows k))
theorem RS.out_ (h : RS H H1 io s n ids rows) (hs : s = ids.length) (gc : Nat) : RowsOut H1 (.slice (some ⟨io, 0, none⟩) s gc) s n rows :=
  ⟨io, gc, ids, rfl, h.io2, mine_cs h.out, hs, fun k hk => ⟨(h.id k (by omega)).2.1, mine_cs (h.row k (by omega))⟩⟩
end
theorem RS.later {H H1 H2 : GHeap} {io s n : Nat} {ids : List Nat} {rows : Nat → List Int} (h : RS H H1 io s n ids rows) (hS : Same H1 H2) : RS H H2 io s n ids rows :=
  ⟨h.same.trans hS, h.io1, Nat.lt_of_lt_of_le h.io2 hS.len, h.len, by rw [hS.mine h.io2]; exact h.out, fun k hk => ⟨(h.id k hk).1, Nat.lt_of_lt_of_le (h.id k hk).2.1 hS.len, (h.id k hk).2.2⟩, h.dist, fun k hk => by rw [hS.mine (h.id k hk).2.1]; exact h.row k hk⟩
theorem RowsOut.later {H H3 : GHeap} {v : Value} {m n : Nat} {rows : Nat → List Int} (h : RowsOut H v m n rows) (hS : Same H H3) : RowsOut H3 v m n rows := by
  obtain ⟨i, gc, ids, e, h1, h2, h3, h4⟩ := h
  exact ⟨i, gc, ids, e, Nat.lt_of_lt_of_le h1 hS.len, by rw [hS.cs h1]; exact h2, h3, fun k hk => ⟨Nat.lt_of_lt_of_le (h4 k hk).1 hS.len, by rw [hS.cs (h4 k hk).1]; exact (h4 k hk).2⟩⟩
/-- a row of which the first numbers are set -/
def mkF (n i : Nat) (F : Nat → Int) : List Int := (List.range n).map fun k => if k < i then F k else 0
theorem mkF_len (n i : Nat) (F : Nat → Int) : (mkF n i F).length = n := by simp [mkF]
theorem mkF_zero (n : Nat) (F : Nat → Int) : mkF n 0 F = List.replicate n 0 := by
  refine List.ext_getElem? fun k => ?_
  by_cases h : k < n
  · simp [mkF, h]
  · simp [mkF, h]
theorem mkF_set {n i : Nat} {F : Nat → Int} (h : i < n) : (mkF n i F).set i (F i) = mkF n (i + 1) F := by
  refine List.ext_getElem? fun k => ?_
  rw [List.getElem?_set]
  by_cases e : i = k
  · subst e
    simp [mkF, h]
  · rw [if_neg e]
    by_cases hk : k < n
    · simp only [mkF, List.getElem?_map, List.getElem?_range hk, Option.map_some]
      by_cases h2 : k < i
      · rw [if_pos h2, if_pos (by omega)]
      · rw [if_neg h2, if_neg (by omega)]
    · rw [List.getElem?_eq_none (by rw [mkF_len]; omega), List.getElem?_eq_none (by rw [mkF_len]; omega)]
theorem mkF_all (n : Nat) (F : Nat → Int) : mkF n n F = (List.range n).map F := by
  refine List.map_congr_left fun k hk => ?_
  rw [if_pos (List.mem_range.1 hk)]
theorem rowE_at {n k : Nat} {F : Nat → Int} (h : k < n) : ((List.range n).map F)[k]? = some (F k) := by
  rw [List.getElem?_map, List.getElem?_range h]; rfl
end Go.Gh
