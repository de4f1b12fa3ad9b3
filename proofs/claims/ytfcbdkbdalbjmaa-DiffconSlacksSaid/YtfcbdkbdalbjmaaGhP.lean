/-
  A region whose order is open: what is asked of the plan; what the ghost run leaves, step by step.
-/
import Derived.Test.YtfcbdkbdalbjmaaGhO
namespace Go.Gh
set_option linter.unusedVariables false
set_option linter.unusedSimpArgs false
open Go.RowKit

/-! ### what waits for what -/
theorem mem_addNew (l : List Nat) : ∀ (acc : List Nat) (i : Nat), i ∈ l.foldl addNew acc ↔ i ∈ acc ∨ i ∈ l := by
  induction l with
  | nil => simp
  | cons x l ih =>
    intro acc i
    rw [List.foldl_cons, ih]
    unfold addNew
    split
    · rename_i h
      simp only [List.contains_iff_mem] at h
      simp only [List.mem_cons]
      constructor
      · rintro (h1 | h1)
        · exact .inl h1
        · exact .inr (.inr h1)
      · rintro (h1 | rfl | h1)
        · exact .inl h1
        · exact .inl h
        · exact .inr h1
    · simp only [List.mem_cons]
      constructor
      · rintro ((h1 | h1) | h1)
        · exact .inr (.inl h1)
        · exact .inl h1
        · exact .inr (.inr h1)
      · rintro (h1 | h1 | h1)
        · exact .inl (.inr h1)
        · exact .inl (.inl h1)
        · exact .inr h1
theorem snoc_ind {α : Type} {p : List α → Prop} (h0 : p []) (h1 : ∀ l x, p l → p (l ++ [x])) (l : List α) : p l := by
  have : ∀ l : List α, p l.reverse := by
    intro l
    induction l with
    | nil => exact h0
    | cons x l ih => rw [List.reverse_cons]; exact h1 _ _ ih
  simpa using this l.reverse
def befs (l : List Oper) : List (List Nat) := l.foldl befStep []
theorem befs_snoc (l : List Oper) (o : Oper) : befs (l ++ [o]) = befs l ++ [((o.after.toList.filter (Region.binds .any)).flatMap fun e => e.on :: (befs l).getD e.on []).foldl addNew []] := by
  unfold befs; rw [List.foldl_append]; rfl
theorem befs_len : ∀ (l : List Oper), (befs l).length = l.length := by
  refine snoc_ind rfl fun l o ih => ?_
  rw [befs_snoc]; simp [ih]
/-- an operation waits for those of its edges, and for what these wait for -/
theorem befs_mem : ∀ (l : List Oper) (j : Nat) (o : Oper), l[j]? = some o → ∀ i, i ∈ (befs l).getD j [] ↔ ∃ e ∈ o.after.toList, Region.binds .any e = true ∧ (i = e.on ∨ (e.on < j ∧ i ∈ (befs l).getD e.on [])) := by
  refine snoc_ind (fun j o h => by simp at h) fun l o' ih => ?_
  · intro j o h i
    rw [befs_snoc]
    have hlen := befs_len l
    have hget : ∀ k, k < l.length → (befs l ++ [((o'.after.toList.filter (Region.binds .any)).flatMap fun e => e.on :: (befs l).getD e.on []).foldl addNew []]).getD k [] = (befs l).getD k [] := fun k hk => by
      simp only [List.getD_eq_getElem?_getD]; rw [List.getElem?_append_left (by omega)]
    rcases Nat.lt_or_ge j l.length with hj | hj
    · rw [List.getElem?_append_left hj] at h
      rw [hget j hj, ih j o h i]
      constructor
      · rintro ⟨e, h1, h2, h3⟩
        refine ⟨e, h1, h2, h3.imp id fun ⟨h4, h5⟩ => ⟨h4, by rw [hget _ (by omega)]; exact h5⟩⟩
      · rintro ⟨e, h1, h2, h3⟩
        refine ⟨e, h1, h2, h3.imp id fun ⟨h4, h5⟩ => ⟨h4, by rw [hget _ (by omega)] at h5; exact h5⟩⟩
    · rw [List.getElem?_append_right hj] at h
      obtain rfl : j = l.length := by
        rcases Nat.eq_or_lt_of_le hj with e | e
        · exact e.symm
        · have : j - l.length ≠ 0 := by omega
          cases hh : j - l.length with
          | zero => omega
          | succ k => rw [hh] at h; simp at h
      simp at h
      subst h
      have e1 : (befs l ++ [((o'.after.toList.filter (Region.binds .any)).flatMap fun e => e.on :: (befs l).getD e.on []).foldl addNew []]).getD l.length [] = ((o'.after.toList.filter (Region.binds .any)).flatMap fun e => e.on :: (befs l).getD e.on []).foldl addNew [] := by
        rw [List.getD_eq_getElem?_getD, List.getElem?_append_right (by omega), hlen]; simp
      rw [e1, mem_addNew]
      simp only [List.not_mem_nil, false_or, List.mem_flatMap, List.mem_filter, List.mem_cons]
      constructor
      · rintro ⟨e, ⟨h1, h2⟩, h3⟩
        refine ⟨e, h1, h2, h3.imp id fun h4 => ?_⟩
        have he : e.on < l.length := by
          rcases Nat.lt_or_ge e.on l.length with hh | hh
          · exact hh
          · rw [List.getD_eq_getElem?_getD, List.getElem?_eq_none (by omega)] at h4; simp at h4
        exact ⟨he, by rw [hget _ he]; exact h4⟩
      · rintro ⟨e, h1, h2, h3⟩
        exact ⟨e, ⟨h1, h2⟩, h3.imp id fun ⟨h4, h5⟩ => by rw [hget _ h4] at h5; exact h5⟩
/-- where an operation has had its way, all that it waits for has -/
theorem closed_all {ops : Array Oper} {S : Nat → Prop} (hS : ∀ j o, ops[j]? = some o → S j → ∀ e ∈ o.after.toList, Region.binds .any e = true → S e.on) :
    ∀ (n j : Nat) (o : Oper), j ≤ n → ops[j]? = some o → (∀ e ∈ o.after.toList, Region.binds .any e = true → S e.on) → ∀ i ∈ (befores ops).getD j [], S i := by
  intro n
  induction n with
  | zero =>
    intro j o hj ho hd i hi
    rw [befores, ← befs, befs_mem ops.toList j o (by simpa using ho)] at hi
    obtain ⟨e, h1, h2, h3 | ⟨h3, _⟩⟩ := hi
    · subst h3; exact hd e h1 h2
    · omega
  | succ n ih =>
    intro j o hj ho hd i hi
    rw [befores, ← befs, befs_mem ops.toList j o (by simpa using ho)] at hi
    obtain ⟨e, h1, h2, h3 | ⟨h3, h4⟩⟩ := hi
    · subst h3; exact hd e h1 h2
    · have hs := hd e h1 h2
      have hlt : e.on < ops.size := by have := (Array.getElem?_eq_some_iff.1 ho).1; omega
      exact ih e.on ops[e.on] (by omega) (Array.getElem?_eq_getElem hlt) (hS _ _ (Array.getElem?_eq_getElem hlt) hs) i h4
theorem direct_mem {ops : Array Oper} {j : Nat} {o : Oper} (ho : ops[j]? = some o) {e : Edge} (he : e ∈ o.after.toList) (hb : Region.binds .any e = true) : e.on ∈ (befores ops).getD j [] := by
  rw [befores, ← befs, befs_mem ops.toList j o (by simpa using ho)]
  exact ⟨e, he, hb, .inl rfl⟩

/-! ### what looks at the same slots yields the same -/
section
variable {f1 f2 : Fr} {H H' : GHeap}
theorem evs_agree : ∀ (l : List GArg), (∀ x ∈ l, x.ev f1 = x.ev f2) → evs f1 l = evs f2 l
  | [], _ => rfl
  | x :: l, h => by simp only [evs, h x (by simp), evs_agree l (fun y hy => h y (by simp [hy]))]
theorem evParts_agree : ∀ (l : List (Nat × Nat × GArg)), (∀ x ∈ l.map (·.2.2), x.ev f1 = x.ev f2) → evParts f1 l = evParts f2 l
  | [], _ => rfl
  | (o, n, x) :: l, h => by simp only [evParts, h x (by simp), evParts_agree l (fun y hy => h y (by simp at hy ⊢; exact .inr hy))]
theorem evOpt_agree : ∀ (x : Option GArg), (∀ y ∈ x.toList, y.ev f1 = y.ev f2) → evOpt f1 x = evOpt f2 x
  | none, _ => rfl
  | some x, h => by simp only [evOpt, h x (by simp)]
theorem gopM_agree {op : GOp} (h : ∀ x ∈ planOk.args op, x.ev f1 = x.ev f2) : gopM f1 H op = gopM f2 H op := by
  cases op <;> simp only [planOk.args] at h <;> simp only [gopM]
  case build => rw [evParts_agree _ h]
  case buildSl => rw [evParts_agree _ h]
  case slice r x lo hi mx =>
    rw [h x (by simp), evOpt_agree lo (fun y hy => h y (by simp at hy ⊢; simp [hy])), evOpt_agree hi (fun y hy => h y (by simp at hy ⊢; simp [hy])), evOpt_agree mx (fun y hy => h y (by simp at hy ⊢; simp [hy]))]
  case fn => rw [evs_agree _ (fun y hy => h y (by simp [hy])), evs_agree _ (fun y hy => h y (by simp [hy]))]
  case min => rw [h _ (by simp), evs_agree _ (fun y hy => h y (by simp [hy]))]
  case max => rw [h _ (by simp), evs_agree _ (fun y hy => h y (by simp [hy]))]
  all_goals (simp only [List.mem_cons, List.not_mem_nil, or_false, forall_eq_or_imp, forall_eq] at h; simp only [h])
theorem gopW_agree {op : GOp} (h : ∀ x ∈ planOk.args op, x.ev f1 = x.ev f2) : gopW f1 H op = gopW f2 H op := by
  cases op <;> simp only [planOk.args] at h <;> simp only [gopW]
  all_goals (simp only [List.mem_cons, List.not_mem_nil, or_false, forall_eq_or_imp, forall_eq] at h; simp only [h])
theorem gtarget_agree {f : GArg} {xs : List GArg} (h : ∀ x ∈ f :: xs, x.ev f1 = x.ev f2) : gtarget f1 f xs = gtarget f2 f xs := by
  simp only [gtarget, h f (by simp), evs_agree xs (fun y hy => h y (by simp [hy]))]
theorem gdo_agree {call : GCall} {op : GOp} (h : ∀ x ∈ planOk.args op, x.ev f1 = x.ev f2) : gdo call f1 H op = gdo call f2 H op := by
  cases op <;> first
    | (simp only [gdo]; rw [gtarget_agree (by simpa [planOk.args] using h)]; done)
    | (simp only [gdo, gopM_agree h, gopW_agree h]; done)
theorem gdoM_agree {call : GCall} {op : GOp} (h : ∀ x ∈ planOk.args op, x.ev f1 = x.ev f2) : gdoM call f1 H op = gdoM call f2 H op := by
  cases op <;> first
    | (simp only [gdoM]; rw [gtarget_agree (by simpa [planOk.args] using h)]; done)
    | (simp only [gdoM, gopM_agree h]; done)
theorem gwants_agree {g : Option (Nat × Bool)} (h : ∀ x ∈ g.toList.map (·.1), f1.get x = f2.get x) : gwants f1 g = gwants f2 g := by
  cases g with
  | none => rfl
  | some g => obtain ⟨d, b⟩ := g; simp only [gwants, h d (by simp)]
/-- a pure operation looks at no object, but for units -/
theorem pure_any {op : GOp} (hp : pureG op = true) {fr : Fr} {v : Value} {new : Option GObj} (h : gopM fr H op = some (v, new)) (hu : ∀ i u, H.unit i = some u → H'.unit i = some u) : new = none ∧ gopM fr H' op = some (v, none) := by
  cases op
  case pick c a b =>
    simp only [gopM] at h ⊢
    split at h
    · simp only [Option.map_eq_some_iff, Prod.mk.injEq] at h ⊢
      obtain ⟨x, h1, h2, rfl⟩ := h; exact ⟨rfl, x, h1, h2, trivial⟩
    · cases h
  case lenOf => cases h; exact ⟨rfl, rfl⟩
  case nilc x =>
    simp only [gopM, Option.bind_eq_some_iff] at h ⊢
    obtain ⟨x, h1, h2⟩ := h
    split at h2 <;> cases h2 <;> exact ⟨rfl, _, h1, rfl⟩
  case ext x k =>
    simp only [gopM, Option.bind_eq_some_iff] at h ⊢
    obtain ⟨x, h1, h2⟩ := h
    split at h2
    · simp only [Option.map_eq_some_iff, Prod.mk.injEq] at h2
      obtain ⟨r, h3, rfl, rfl⟩ := h2
      exact ⟨rfl, _, h1, by simp [h3]⟩
    · cases h2
  case conv r x =>
    simp only [gopM, Option.bind_eq_some_iff] at h ⊢
    obtain ⟨x, h1, h2⟩ := h
    cases r <;> simp [pureG] at hp <;> (unfold gconv at h2 ⊢; cases x <;> simp at h2) <;> (obtain ⟨rfl, rfl⟩ := h2; exact ⟨rfl, _, h1, rfl⟩)
  case slice r x lo hi mx =>
    simp only [gopM, Option.bind_eq_some_iff, Option.map_eq_some_iff, Prod.mk.injEq] at h ⊢
    obtain ⟨x, h1, l, h2, hh, h3, m, h4, r', h5, rfl, rfl⟩ := h
    refine ⟨rfl, x, h1, l, h2, hh, h3, m, h4, r', ?_, rfl, trivial⟩
    unfold gslice at h5 ⊢
    split at h5
    · exact h5
    · exact h5
    · split at h5
      · rename_i u hh
        simp only [hu _ _ hh]
        exact h5
      · cases h5
    · split at h5
      · rename_i hh
        simp only [hu _ _ hh]
        exact h5
      · cases h5
    · cases h5
  case build => simp only [gopM, Option.bind_eq_some_iff, Option.map_eq_some_iff, Prod.mk.injEq] at h ⊢; obtain ⟨x, h1, y, h2, h3, rfl⟩ := h; exact ⟨rfl, x, h1, y, h2, h3, trivial⟩
  case bin => simp only [gopM, Option.bind_eq_some_iff, Option.map_eq_some_iff, Prod.mk.injEq] at h ⊢; obtain ⟨x, h1, y, h2, z, h3, h4, rfl⟩ := h; exact ⟨rfl, x, h1, y, h2, z, h3, h4, trivial⟩
  case fn => simp only [gopM, Option.bind_eq_some_iff, Option.map_eq_some_iff, Prod.mk.injEq] at h ⊢; obtain ⟨x, h1, y, h2, h3, rfl⟩ := h; exact ⟨rfl, x, h1, y, h2, h3, trivial⟩
  case ia => simp only [gopM, Option.bind_eq_some_iff, Option.map_eq_some_iff, Prod.mk.injEq] at h ⊢; obtain ⟨x, h1, y, h2, z, h3, h4, rfl⟩ := h; exact ⟨rfl, x, h1, y, h2, z, h3, h4, trivial⟩
  case ix => simp only [gopM, Option.bind_eq_some_iff, Option.map_eq_some_iff, Prod.mk.injEq] at h ⊢; obtain ⟨x, h1, y, h2, z, h3, h4, rfl⟩ := h; exact ⟨rfl, x, h1, y, h2, z, h3, h4, trivial⟩
  case min => simp only [gopM, Option.bind_eq_some_iff, Option.map_eq_some_iff, Prod.mk.injEq] at h ⊢; obtain ⟨x, h1, y, h2, z, h3, h4, rfl⟩ := h; exact ⟨rfl, x, h1, y, h2, z, h3, h4, trivial⟩
  case max => simp only [gopM, Option.bind_eq_some_iff, Option.map_eq_some_iff, Prod.mk.injEq] at h ⊢; obtain ⟨x, h1, y, h2, z, h3, h4, rfl⟩ := h; exact ⟨rfl, x, h1, y, h2, z, h3, h4, trivial⟩
  case move => simp only [gopM, Option.map_eq_some_iff, Prod.mk.injEq] at h ⊢; obtain ⟨x, h1, h2, rfl⟩ := h; exact ⟨rfl, x, h1, h2, trivial⟩
  all_goals first
    | (simp [pureG] at hp; done)
    | (simp only [gopM, Option.bind_eq_some_iff, Option.map_eq_some_iff, Prod.mk.injEq] at h ⊢; obtain ⟨x, h1, y, h2, h3, rfl⟩ := h; exact ⟨rfl, x, h1, y, h2, h3, trivial⟩)
end
end Go.Gh
