/-
  Plain: what the parsers of markup compute; they read what Text writes.
-/
import Derived.Test.YtgbibkkcnkaelaaDoorSyT5
namespace Go.Gh
set_option linter.unusedSimpArgs false
set_option linter.unusedVariables false
open Go.RowKit
set_option maxRecDepth 4000

/-- the text up to the first byte of a set, and the rest -/
def untP (e : UInt8 → Bool) : List UInt8 → List UInt8 × List UInt8
  | [] => ([], [])
  | [b] => if e b then ([], [b]) else ([b], [])
  | b :: c :: r => if b = 92 then (c :: (untP e r).1, (untP e r).2) else if e b then ([], b :: c :: r) else (b :: (untP e (c :: r)).1, (untP e (c :: r)).2)
theorem untP_stop {e : UInt8 → Bool} {b : UInt8} (h : e b = true) (h2 : b ≠ 92) (X : List UInt8) : untP e (b :: X) = ([], b :: X) := by
  cases X <;> simp [untP, h, h2]
theorem untP_cons {e : UInt8 → Bool} {b : UInt8} (h : e b = false) (h2 : b ≠ 92) (X : List UInt8) : untP e (b :: X) = (b :: (untP e X).1, (untP e X).2) := by
  cases X <;> simp [untP, h, h2]
theorem untP_bs {e : UInt8 → Bool} (c : UInt8) (X : List UInt8) : untP e (92 :: c :: X) = (c :: (untP e X).1, (untP e X).2) := by
  simp [untP]
theorem untP_one {e : UInt8 → Bool} (h : e 92 = false) : untP e [92] = ([92], []) := by simp [untP, h]
theorem untP_len {e : UInt8 → Bool} : ∀ n (l : List UInt8), l.length ≤ n → (untP e l).1.length + (untP e l).2.length ≤ l.length
  | _, [], _ => by simp [untP]
  | _, [b], _ => by
    by_cases h : e b = true <;> simp [untP, h]
  | 0, _ :: _ :: _, h => by simp at h
  | n + 1, b :: c :: r, h => by
    simp only [List.length_cons] at h
    have h1 := untP_len (e := e) n r (by omega)
    have h2 := untP_len (e := e) n (c :: r) (by simp only [List.length_cons]; omega)
    simp only [List.length_cons] at h2
    rw [untP]
    split
    · simp only [List.length_cons]; omega
    · split
      · simp
      · simp only [List.length_cons]; omega
theorem untP_suf {e : UInt8 → Bool} : ∀ n (l : List UInt8), l.length ≤ n → (untP e l).2 = l.drop (l.length - (untP e l).2.length)
  | _, [], _ => by simp [untP]
  | _, [b], _ => by
    by_cases h : e b = true <;> simp [untP, h]
  | 0, _ :: _ :: _, h => by simp at h
  | n + 1, b :: c :: r, h => by
    simp only [List.length_cons] at h
    have h1 := untP_suf (e := e) n r (by omega)
    have h2 := untP_suf (e := e) n (c :: r) (by simp only [List.length_cons]; omega)
    have l1 := untP_len (e := e) n r (by omega)
    have l2 := untP_len (e := e) n (c :: r) (by simp only [List.length_cons]; omega)
    simp only [List.length_cons] at l2 h2
    rw [untP]
    split
    · simp only [List.length_cons]
      rw [show r.length + 1 + 1 - (untP e r).2.length = (r.length - (untP e r).2.length) + 2 from by omega]
      exact h1
    · split
      · simp
      · simp only [List.length_cons]
        rw [show r.length + 1 + 1 - (untP e (c :: r)).2.length = (r.length + 1 - (untP e (c :: r)).2.length) + 1 from by omega]
        exact h2
theorem untP_esc {e : UInt8 → Bool} (he : ∀ b, e b = true → isE b = true) : ∀ (t r : List UInt8), untP e (esc t ++ r) = (t ++ (untP e r).1, (untP e r).2)
  | [], r => by simp [esc]
  | b :: t, r => by
    have ih := untP_esc he t r
    rw [esc_cons, List.append_assoc]
    by_cases h : isE b = true
    · have e1 : esc1 b = [92, b] := if_pos h
      rw [e1, List.cons_append, List.cons_append, List.nil_append, untP_bs, ih]; rfl
    · have e1 : esc1 b = [b] := if_neg h
      have h2 : b ≠ 92 := fun e2 => h (by rw [e2]; rfl)
      have h3 : e b = false := by
        cases hb : e b with
        | true => exact absurd (he b hb) h
        | false => rfl
      rw [e1, List.cons_append, List.nil_append, untP_cons h3 h2, ih]; rfl
theorem untP_pre {e : UInt8 → Bool} : ∀ (L r : List UInt8), (∀ b ∈ L, e b = false ∧ b ≠ 92) → untP e (L ++ r) = (L ++ (untP e r).1, (untP e r).2)
  | [], r, _ => rfl
  | b :: L, r, h => by
    have ih := untP_pre L r fun x hx => h x (by simp [hx])
    obtain ⟨h1, h2⟩ := h b (by simp)
    rw [List.cons_append, untP_cons h1 h2, ih]; rfl
/-! ### style's parser -/
def eB (b : UInt8) : Bool := b == 123 || b == 125
def hasP (p : UInt8) : List UInt8 → Bool
  | b :: _ => b == p
  | [] => false
def cutP (p : UInt8) (l : List UInt8) : List UInt8 := if hasP p l = true then l.tail else l
theorem cutP_len (p : UInt8) (l : List UInt8) : (cutP p l).length ≤ l.length := by
  unfold cutP; split <;> simp
def colI (l : List UInt8) : Nat × List UInt8 :=
  match l with
  | [] => (0, [])
  | b :: r => if b ∈ colS then (colS.idxOf b + 1, r) else (0, b :: r)
theorem colI_len (l : List UInt8) : (colI l).2.length ≤ l.length := by
  unfold colI
  split
  · simp
  · split <;> simp
/-- the tag behind its brace: style, ruby, rest -/
def tagI (l : List UInt8) : Sy × List UInt8 × List UInt8 :=
  let c := colI l
  let l2 := cutP 105 c.2
  let l3 := cutP 117 l2
  let l4 := cutP 58 l3
  let s : Sy := ⟨c.1, hasP 105 c.2, hasP 117 l2⟩
  if hasP 58 l3 = true then (s, (untP eB l4).1, cutP 125 (untP eB l4).2) else (s, [], cutP 125 l3)
theorem tagI_len (l : List UInt8) : (tagI l).2.1.length + (tagI l).2.2.length ≤ l.length := by
  have h1 := colI_len l
  have h2 := cutP_len 105 (colI l).2
  have h3 := cutP_len 117 (cutP 105 (colI l).2)
  have h4 := cutP_len 58 (cutP 117 (cutP 105 (colI l).2))
  have h5 := untP_len (e := eB) _ (cutP 58 (cutP 117 (cutP 105 (colI l).2))) (Nat.le_refl _)
  unfold tagI
  simp only
  split
  · have h6 := cutP_len 125 (untP eB (cutP 58 (cutP 117 (cutP 105 (colI l).2)))).2
    simp only; omega
  · have h6 := cutP_len 125 (cutP 117 (cutP 105 (colI l).2))
    simp only [List.length_nil]; omega
/-- one run -/
def stepI (l : List UInt8) : SR × List UInt8 :=
  match l with
  | [] => (⟨[], ⟨0, false, false⟩, []⟩, [])
  | b :: r =>
    if b = 123 then (⟨(untP eB (tagI r).2.2).1, (tagI r).1, (tagI r).2.1⟩, (untP eB (tagI r).2.2).2)
    else (⟨(untP eB (b :: r)).1, ⟨0, false, false⟩, []⟩, (untP eB (b :: r)).2)
theorem stepI_len (l : List UInt8) : (stepI l).1.t.length ≤ l.length ∧ (stepI l).1.y.length ≤ l.length ∧ (stepI l).2.length ≤ l.length := by
  unfold stepI
  split
  · simp
  · rename_i b r
    have h1 := tagI_len r
    have h2 := untP_len (e := eB) _ (tagI r).2.2 (Nat.le_refl _)
    have h3 := untP_len (e := eB) _ (b :: r) (Nat.le_refl _)
    split
    · simp only [List.length_cons]; omega
    · simp only [List.length_nil]; omega
def loopI : Nat → List SR → List UInt8 → Option (List SR)
  | _, out, [] => some out
  | 0, _, _ :: _ => none
  | n + 1, out, b :: r => if (stepI (b :: r)).2.length = (b :: r).length ∨ 16 < out.length + 1 then none else loopI n (out ++ [(stepI (b :: r)).1]) (stepI (b :: r)).2
/-! ### the reference's parser -/
def eC (b : UInt8) : Bool := b == 58 || b == 125
def eD (b : UInt8) : Bool := b == 125
def all28 : List Sy := (List.range 7).flatMap fun c : Nat => (List.range 4).map fun k : Nat => ⟨(c : Int), k % 2 == 1, decide (2 ≤ k)⟩
def parL (s : List UInt8) : Sy := match all28.find? fun x => letB x == s with
  | some x => x
  | none => ⟨0, false, false⟩
def tagR (l : List UInt8) : Option (Sy × List UInt8 × List UInt8) :=
  let k := untP eC l
  let yk := if hasP 58 k.2 = true then untP eD k.2.tail else ([], k.2)
  match yk.2 with
  | [] => none
  | _ :: r => some (parL k.1, yk.1, r)
def finR (x : SR) (l : List UInt8) : Option (SR × List UInt8) :=
  if hasP 125 (untP eB l).2 = true then none else some ({x with t := (untP eB l).1}, (untP eB l).2)
def stepR (l : List UInt8) : Option (SR × List UInt8) :=
  if hasP 123 l = true then (match tagR l.tail with
    | none => none
    | some z => finR ⟨[], z.1, z.2.1⟩ z.2.2)
  else finR ⟨[], ⟨0, false, false⟩, []⟩ l
def loopR : Nat → List SR → List UInt8 → Option (List SR)
  | _, out, [] => some out
  | 0, _, _ :: _ => none
  | n + 1, out, b :: r => match stepR (b :: r) with
    | none => none
    | some z => loopR n (out ++ [z.1]) z.2
/-! ### they read what Text writes -/
def okX (x : SR) : Prop := x.t ≠ [] ∧ 0 ≤ x.s.c ∧ x.s.c ≤ 6
theorem hd_styles {s : Sy} (h0 : 0 ≤ s.c) (h6 : s.c ≤ 6) : s ∈ all28 := by
  obtain ⟨c, i, u⟩ := s
  simp only at h0 h6
  have : c = 0 ∨ c = 1 ∨ c = 2 ∨ c = 3 ∨ c = 4 ∨ c = 5 ∨ c = 6 := by omega
  rcases this with rfl | rfl | rfl | rfl | rfl | rfl | rfl <;> cases i <;> cases u <;> decide
theorem parL_tab : (all28.all fun s => parL (letB s) == s) = true := by decide
theorem parL_let {s : Sy} (h0 : 0 ≤ s.c) (h6 : s.c ≤ 6) : parL (letB s) = s := by
  have := List.all_eq_true.1 parL_tab s (hd_styles h0 h6)
  simpa using this
theorem let_tab : (all28.all fun s => (letB s).all fun b => !eC b && b != 92 && !eB b) = true := by decide
theorem let_ok {s : Sy} (h0 : 0 ≤ s.c) (h6 : s.c ≤ 6) : ∀ b ∈ letB s, eC b = false ∧ b ≠ 92 := by
  have := List.all_eq_true.1 let_tab s (hd_styles h0 h6)
  intro b hb
  have h := List.all_eq_true.1 this b hb
  simp at h
  exact ⟨h.1.1, h.1.2⟩
theorem eB_isE : ∀ b, eB b = true → isE b = true := fun b h => by
  simp only [eB, isE] at h ⊢; rw [h]; rfl
theorem eD_isE : ∀ b, eD b = true → isE b = true := fun b h => by
  simp only [eD, isE] at h ⊢; rw [h]; simp
/-- what follows a run -/
def endX (Z : List UInt8) : Prop := Z = [] ∨ ∃ Y, Z = 123 :: Y
theorem untP_end {Z : List UInt8} (h : endX Z) : untP eB Z = ([], Z) := by
  rcases h with rfl | ⟨Y, rfl⟩
  · rfl
  · exact untP_stop rfl (by decide) Y
theorem head_ok {s : Sy} (h0 : 0 ≤ s.c) (h6 : s.c ≤ 6) (b : UInt8) (hb : b = 58 ∨ b = 125) (Y : List UInt8) :
    colI (letB s ++ b :: Y) = (s.c.toNat, iB s.i ++ uB s.u ++ b :: Y) ∧ cutP 105 (iB s.i ++ uB s.u ++ b :: Y) = uB s.u ++ b :: Y ∧ hasP 105 (iB s.i ++ uB s.u ++ b :: Y) = s.i ∧ cutP 117 (uB s.u ++ b :: Y) = b :: Y ∧ hasP 117 (uB s.u ++ b :: Y) = s.u := by
  obtain ⟨c, i, u⟩ := s
  simp only at h0 h6
  have : c = 0 ∨ c = 1 ∨ c = 2 ∨ c = 3 ∨ c = 4 ∨ c = 5 ∨ c = 6 := by omega
  rcases hb with rfl | rfl <;> refine ⟨?_, ?_, ?_, ?_, ?_⟩
  case inl.refine_1 | inr.refine_1 => rcases this with rfl | rfl | rfl | rfl | rfl | rfl | rfl <;> cases i <;> cases u <;> rfl
  all_goals cases i <;> cases u <;> rfl
theorem stepI_run {x : SR} (h : okX x) {Z : List UInt8} (hZ : endX Z) : stepI (runT x ++ Z) = (x, Z) := by
  obtain ⟨t, s, y⟩ := x
  obtain ⟨h1, h2, h3⟩ := h
  simp only at h1 h2 h3
  have e0 : runT ⟨t, s, y⟩ ++ Z = 123 :: (letB s ++ ((if y = [] then [] else 58 :: esc y) ++ 125 :: (esc t ++ Z))) := by
    unfold runT tagB; simp
  have htx : untP eB (esc t ++ Z) = (t, Z) := by rw [untP_esc eB_isE, untP_end hZ, List.append_nil]
  have htag : tagI (letB s ++ ((if y = [] then [] else 58 :: esc y) ++ 125 :: (esc t ++ Z))) = (s, y, esc t ++ Z) := by
    have hs : (⟨(s.c.toNat : Int), s.i, s.u⟩ : Sy) = s := by
      obtain ⟨c, i, u⟩ := s
      simp only [Sy.mk.injEq, and_true]
      exact Int.toNat_of_nonneg h2
    by_cases hy : y = []
    · rw [if_pos hy, List.nil_append]
      obtain ⟨k1, k2, k3, k4, k5⟩ := head_ok h2 h3 125 (.inr rfl) (esc t ++ Z)
      simp only [tagI, k1, k2, k3, k4, k5]
      rw [if_neg (by simp [hasP]), hs, hy]
      rfl
    · rw [if_neg hy]
      obtain ⟨k1, k2, k3, k4, k5⟩ := head_ok h2 h3 58 (.inl rfl) (esc y ++ 125 :: (esc t ++ Z))
      rw [List.cons_append]
      simp only [tagI, k1, k2, k3, k4, k5]
      have k6 : cutP 58 (58 :: (esc y ++ 125 :: (esc t ++ Z))) = esc y ++ 125 :: (esc t ++ Z) := rfl
      have k7 : hasP 58 (58 :: (esc y ++ 125 :: (esc t ++ Z))) = true := rfl
      rw [if_pos k7, hs, k6, untP_esc eB_isE, untP_stop rfl (by decide), List.append_nil]
      rfl
  rw [e0]
  simp only [stepI, if_true]
  rw [htag]
  simp only [htx]
theorem esc_head {t : List UInt8} (h : t ≠ []) (Z : List UInt8) : ∃ b r, esc t ++ Z = b :: r ∧ b ≠ 123 ∧ b ≠ 125 := by
  cases t with
  | nil => exact absurd rfl h
  | cons b t =>
    rw [esc_cons]
    by_cases hb : isE b = true
    · exact ⟨92, b :: (esc t ++ Z), by rw [show esc1 b = [92, b] from if_pos hb]; rfl, by decide, by decide⟩
    · exact ⟨b, esc t ++ Z, by rw [show esc1 b = [b] from if_neg hb]; rfl, fun e => hb (by rw [e]; rfl), fun e => hb (by rw [e]; rfl)⟩
theorem tag_nil {x : SR} (h : okX x) (ht : tagB x = []) : x = ⟨x.t, ⟨0, false, false⟩, []⟩ := by
  obtain ⟨t, s, y⟩ := x
  obtain ⟨h1, h2, h3⟩ := h
  simp only at h1 h2 h3
  simp only [tagB, List.append_eq_nil_iff] at ht
  have hy : y = [] := by
    by_cases hy : y = []
    · exact hy
    · rw [if_neg hy] at ht; simp at ht
  have hs : s = ⟨0, false, false⟩ := by
    have := parL_let h2 h3
    rw [ht.1] at this
    rw [← this]; decide
  rw [hs, hy]
theorem stepI_run0 {x : SR} (h : okX x) {Z : List UInt8} (hZ : endX Z) : stepI (run0 x ++ Z) = (x, Z) := by
  unfold run0
  split
  · rename_i ht
    have htx : untP eB (esc x.t ++ Z) = (x.t, Z) := by rw [untP_esc eB_isE, untP_end hZ, List.append_nil]
    obtain ⟨b, r, e, h1, h2⟩ := esc_head h.1 Z
    have hx := tag_nil h ht
    rw [e] at htx ⊢
    simp only [stepI]
    rw [if_neg h1, htx, ← hx]
  · exact stepI_run h hZ
theorem run_ne {x : SR} (h : okX x) : 0 < (runT x).length ∧ 0 < (run0 x).length := by
  have h1 : 0 < (runT x).length := by unfold runT; simp
  refine ⟨h1, ?_⟩
  unfold run0
  split
  · have := List.length_pos_iff.2 h.1
    have h2 := len_le_esc x.t
    omega
  · exact h1
theorem flat_end {r : List SR} : endX (r.flatMap runT) := by
  cases r with
  | nil => exact .inl rfl
  | cons x r => exact .inr ⟨_, by rw [List.flatMap_cons]; unfold runT; rfl⟩
theorem loopI_step {n : Nat} {out : List SR} {l Z : List UInt8} {x : SR} (h : stepI l = (x, Z)) (hl : Z.length < l.length) (ho : out.length < 16) : loopI (n + 1) out l = loopI n (out ++ [x]) Z := by
  cases l with
  | nil => simp at hl
  | cons b r =>
    rw [loopI, h]
    exact if_neg (by simp only; omega)
theorem loopI_flat : ∀ (r out : List SR) (n : Nat), (∀ x ∈ r, okX x) → out.length + r.length ≤ 16 → (r.flatMap runT).length ≤ n → loopI n out (r.flatMap runT) = some (out ++ r)
  | [], out, n, _, _, _ => by cases n <;> simp [loopI]
  | x :: r, out, n, h, ho, hn => by
    have hx := h x (by simp)
    have hne := (run_ne hx).1
    rw [List.flatMap_cons, List.length_append] at hn
    simp only [List.length_cons] at ho
    obtain ⟨n, rfl⟩ : ∃ m, n = m + 1 := ⟨n - 1, by omega⟩
    rw [List.flatMap_cons, loopI_step (stepI_run hx flat_end) (by rw [List.length_append]; omega) (by omega), loopI_flat r (out ++ [x]) n (fun z hz => h z (by simp [hz])) (by simp; omega) (by omega)]
    simp
theorem loopI_text {l : List SR} (h : ∀ x ∈ l, okX x) (hl : l.length ≤ 16) (n : Nat) (hn : (textB l).length ≤ n) : loopI n [] (textB l) = some l := by
  cases l with
  | nil => cases n <;> rfl
  | cons x r =>
    have hx := h x (by simp)
    have hne := (run_ne hx).2
    rw [textB, List.length_append] at hn
    simp only [List.length_cons] at hl
    obtain ⟨n, rfl⟩ : ∃ m, n = m + 1 := ⟨n - 1, by omega⟩
    rw [textB, loopI_step (stepI_run0 hx flat_end) (by rw [List.length_append]; omega) (by simp), loopI_flat r ([] ++ [x]) n (fun z hz => h z (by simp [hz])) (by simp; omega) (by omega)]
    simp
theorem stepR_fin {x : SR} {l Z : List UInt8} {t : List UInt8} (hu : untP eB l = (t, Z)) (hZ : endX Z) : finR x l = some ({x with t := t}, Z) := by
  unfold finR
  rw [hu]
  rcases hZ with rfl | ⟨Y, rfl⟩ <;> rfl
theorem stepR_run {x : SR} (h : okX x) {Z : List UInt8} (hZ : endX Z) : stepR (runT x ++ Z) = some (x, Z) := by
  obtain ⟨t, s, y⟩ := x
  obtain ⟨h1, h2, h3⟩ := h
  simp only at h1 h2 h3
  have e0 : runT ⟨t, s, y⟩ ++ Z = 123 :: (letB s ++ ((if y = [] then [] else 58 :: esc y) ++ 125 :: (esc t ++ Z))) := by
    unfold runT tagB; simp
  have htx : untP eB (esc t ++ Z) = (t, Z) := by rw [untP_esc eB_isE, untP_end hZ, List.append_nil]
  have htag : tagR (letB s ++ ((if y = [] then [] else 58 :: esc y) ++ 125 :: (esc t ++ Z))) = some (s, y, esc t ++ Z) := by
    have hpar := parL_let h2 h3
    by_cases hy : y = []
    · rw [if_pos hy, List.nil_append]
      simp only [tagR]
      rw [untP_pre _ _ (let_ok h2 h3), untP_stop rfl (by decide), List.append_nil]
      have k8 : hasP 58 (125 :: (esc t ++ Z)) = false := rfl
      simp only [k8, Bool.false_eq_true, if_false, hpar, hy]
    · rw [if_neg hy, List.cons_append]
      simp only [tagR]
      rw [untP_pre _ _ (let_ok h2 h3), untP_stop rfl (by decide), List.append_nil]
      have k8 : hasP 58 (58 :: (esc y ++ 125 :: (esc t ++ Z))) = true := rfl
      simp only [k8, if_true]
      rw [List.tail_cons, untP_esc eD_isE, untP_stop rfl (by decide), List.append_nil]
      simp only [hpar]
  rw [e0]
  have k9 : ∀ X : List UInt8, hasP 123 (123 :: X) = true := fun _ => rfl
  unfold stepR
  rw [if_pos (k9 _), List.tail_cons, htag]
  simp only
  exact stepR_fin htx hZ
theorem stepR_run0 {x : SR} (h : okX x) {Z : List UInt8} (hZ : endX Z) : stepR (run0 x ++ Z) = some (x, Z) := by
  unfold run0
  split
  · rename_i ht
    have htx : untP eB (esc x.t ++ Z) = (x.t, Z) := by rw [untP_esc eB_isE, untP_end hZ, List.append_nil]
    obtain ⟨b, r, e, h1, h2⟩ := esc_head h.1 Z
    have hx := tag_nil h ht
    rw [e] at htx ⊢
    unfold stepR
    rw [if_neg (by simp [hasP, h1]), stepR_fin htx hZ]
    simp only
    rw [← hx]
  · exact stepR_run h hZ
theorem loopR_step {n : Nat} {out : List SR} {l Z : List UInt8} {x : SR} (h : stepR l = some (x, Z)) (hl : 0 < l.length) : loopR (n + 1) out l = loopR n (out ++ [x]) Z := by
  cases l with
  | nil => simp at hl
  | cons b r => rw [loopR, h]
theorem loopR_flat : ∀ (r out : List SR) (n : Nat), (∀ x ∈ r, okX x) → (r.flatMap runT).length ≤ n → loopR n out (r.flatMap runT) = some (out ++ r)
  | [], out, n, _, _ => by cases n <;> simp [loopR]
  | x :: r, out, n, h, hn => by
    have hx := h x (by simp)
    have hne := (run_ne hx).1
    rw [List.flatMap_cons, List.length_append] at hn
    obtain ⟨n, rfl⟩ : ∃ m, n = m + 1 := ⟨n - 1, by omega⟩
    rw [List.flatMap_cons, loopR_step (stepR_run hx flat_end) (by rw [List.length_append]; omega), loopR_flat r (out ++ [x]) n (fun z hz => h z (by simp [hz])) (by omega)]
    simp
theorem loopR_text {l : List SR} (h : ∀ x ∈ l, okX x) (n : Nat) (hn : (textB l).length ≤ n) : loopR n [] (textB l) = some l := by
  cases l with
  | nil => cases n <;> rfl
  | cons x r =>
    have hx := h x (by simp)
    have hne := (run_ne hx).2
    rw [textB, List.length_append] at hn
    obtain ⟨n, rfl⟩ : ∃ m, n = m + 1 := ⟨n - 1, by omega⟩
    rw [textB, loopR_step (stepR_run0 hx flat_end) (by rw [List.length_append]; omega), loopR_flat r ([] ++ [x]) n (fun z hz => h z (by simp [hz])) (by omega)]
    simp
end Go.Gh
