/-
  Bounds in ghost memory, and the plain functions of the layer diffcon.
-/
import Derived.Test.YtfcbdkbdalbjmaaK4
namespace Go.Gh
set_option linter.unusedSimpArgs false
set_option linter.unusedVariables false
open Go.RowKit

/-- a bound: I, J, C; and the three fields that are not looked at -/
structure Bd where
  I : Int
  J : Int
  C : Int
  R : Int
  D : Int
  O : Int
  deriving Inhabited
def bcells (b : Bd) : List Value := [.int .i64 b.I, .int .i64 b.J, .int .i64 b.C, .int .u8 b.R, .int .i64 b.D, .int .i64 b.O]
def Bds (l : List Bd) : List Value := l.flatMap bcells
theorem Bds_len : ∀ l : List Bd, (Bds l).length = l.length * 6
  | [] => rfl
  | b :: l => by
    show (bcells b ++ Bds l).length = _
    rw [List.length_append, Bds_len l]
    simp [bcells]; omega
theorem Bds_at : ∀ (l : List Bd) (k : Nat) (h : k < l.length) (j : Nat), j < 6 → (Bds l)[k * 6 + j]? = (bcells l[k])[j]?
  | b :: l, 0, _, j, hj => by
    show (bcells b ++ Bds l)[0 * 6 + j]? = _
    rw [List.getElem?_append_left (by simp [bcells]; omega)]
    simp
  | b :: l, k + 1, h, j, hj => by
    have h' : k < l.length := by simpa using h
    show (bcells b ++ Bds l)[(k + 1) * 6 + j]? = (bcells l[k])[j]?
    rw [List.getElem?_append_right (by simp [bcells]; omega), ← Bds_at l k h' j hj]
    congr 1
    simp [bcells]; omega
theorem Bds_part (l : List Bd) (k : Nat) (hk : k < l.length) : ((Bds l).drop (k * 6)).take 6 = bcells l[k]! := by
  rw [getElem!_pos l k hk]
  refine List.ext_getElem? fun j => ?_
  by_cases hj : j < 6
  · rw [List.getElem?_take_of_lt hj, List.getElem?_drop, Bds_at l k hk j hj]
  · rw [List.getElem?_take_eq_none (by omega), List.getElem?_eq_none (by simp [bcells]; omega)]
/-- a bound as one value -/
def bdv (b : Bd) : Value := .agg #[.int .i64 b.I, .int .i64 b.J, .int .i64 b.C, .int .u8 b.R, .int .i64 b.D, .int .i64 b.O]
/-- a bound that is read whole -/
theorem GRd.bd {H : GHeap} {n : Nat} {v : Value} {l : List Bd} (h : GRd H 6 v n (Bds l)) {k : Nat} (hk : k < l.length) : H.rdn (blk v) (ofs v + k * 6) 6 = some (bdv l[k]!) := by
  rw [h.rdn (by omega) (by omega) (by rw [Bds_len]; omega), Bds_part l k hk]; rfl

/- Check -/
def badIdx (n : Int) (b : Bd) : Prop := b.I < 0 ∨ n ≤ b.I ∨ b.J < 0 ∨ n ≤ b.J
def badC (b : Bd) : Prop := b.C < -1099511627776 ∨ 1099511627776 < b.C
instance (n : Int) (b : Bd) : Decidable (badIdx n b) := by unfold badIdx; infer_instance
instance (b : Bd) : Decidable (badC b) := by unfold badC; infer_instance
def chk1 (n : Int) (b : Bd) : Int := if badIdx n b then 1 else if badC b then 2 else 0
def chkL (n : Int) : List Bd → Int
  | [] => 0
  | b :: l => if chk1 n b = 0 then chkL n l else chk1 n b
def checkF (n : Int) (l : List Bd) : Int := if n < 1 ∨ 512 < n then 2 else if 4000 < l.length then 9 else chkL n l

/- edges -/
structure Ed where
  i : Nat
  j : Nat
  c : Int
def far : Int := 1152921504606846976
def edge (b : Bd) : Ed := ⟨b.I.toNat, b.J.toNat, b.C⟩
def Valid (n : Nat) (l : List Bd) : Prop := ∀ b ∈ l, 0 ≤ b.I ∧ b.I < n ∧ 0 ≤ b.J ∧ b.J < n ∧ -1099511627776 ≤ b.C ∧ b.C ≤ 1099511627776
def gx (x : List Int) (i : Nat) : Int := x.getD i 0
def lowers (x : List Int) (e : Ed) : Prop := gx x e.i ≠ far ∧ gx x e.i + e.c < gx x e.j
instance (x : List Int) (e : Ed) : Decidable (lowers x e) := by unfold lowers; infer_instance
def step (x : List Int) (e : Ed) : List Int := if lowers x e then x.set e.j (gx x e.i + e.c) else x
def sweepX : List Ed → List Int → List Int
  | [], x => x
  | e :: l, x => sweepX l (step x e)
def sweepC : List Ed → List Int → Bool
  | [], _ => false
  | e :: l, x => decide (lowers x e) || sweepC l (step x e)
def relaxF (l : List Ed) : Nat → List Int → List Int × Bool
  | 0, x => (x, false)
  | k + 1, x => if sweepC l x then relaxF l k (sweepX l x) else (sweepX l x, true)
/-- all values lie between -t 2^40 and far -/
def Bnd (t : Nat) (x : List Int) : Prop := ∀ v ∈ x, -(t : Int) * 1099511627776 ≤ v ∧ v ≤ far
theorem Bnd.get {t : Nat} {x : List Int} (h : Bnd t x) (i : Nat) : -(t : Int) * 1099511627776 ≤ gx x i ∧ gx x i ≤ far := by
  unfold gx
  rw [List.getD_eq_getElem?_getD]
  cases hx : x[i]? with
  | none => simp [far]; omega
  | some v => exact h v (List.mem_of_getElem? hx)
theorem Bnd.step {t : Nat} {x : List Int} {e : Ed} (h : Bnd t x) (hc : -1099511627776 ≤ e.c) : Bnd (t + 1) (step x e) := by
  intro v hv
  unfold Go.Gh.step at hv
  have hw : ∀ v ∈ x, -((t + 1 : Nat) : Int) * 1099511627776 ≤ v ∧ v ≤ far := fun v hv => by have := h v hv; constructor <;> omega
  split at hv
  · rename_i hl
    rcases List.mem_or_eq_of_mem_set hv with hv | rfl
    · exact hw v hv
    · have h1 := h.get e.i
      have h2 := h.get e.j
      have := hl.2
      constructor <;> omega
  · exact hw v hv
theorem Bnd.mono {t t' : Nat} {x : List Int} (h : Bnd t x) (ht : t ≤ t') : Bnd t' x := fun v hv => by have := h v hv; constructor <;> omega
theorem step_len (x : List Int) (e : Ed) : (step x e).length = x.length := by unfold step; split <;> simp
theorem sweepX_snoc : ∀ (l : List Ed) (x : List Int) (e : Ed), sweepX (l ++ [e]) x = step (sweepX l x) e
  | [], _, _ => rfl
  | _ :: l, x, e => sweepX_snoc l _ e
theorem sweepC_snoc : ∀ (l : List Ed) (x : List Int) (e : Ed), sweepC (l ++ [e]) x = (sweepC l x || decide (lowers (sweepX l x) e))
  | [], x, e => by
    show (decide (lowers x e) || false) = (false || decide (lowers x e))
    rw [Bool.or_false, Bool.false_or]
  | f :: l, x, e => by
    show (decide (lowers x f) || sweepC (l ++ [e]) (step x f)) = _
    rw [sweepC_snoc l]
    show _ = ((decide (lowers x f) || sweepC l (step x f)) || _)
    rw [Bool.or_assoc]; rfl
theorem sweepX_len : ∀ (l : List Ed) (x : List Int), (sweepX l x).length = x.length
  | [], _ => rfl
  | e :: l, x => by show (sweepX l (step x e)).length = _; rw [sweepX_len l, step_len]
theorem sweepX_bnd {t : Nat} : ∀ (l : List Ed) (x : List Int), (∀ e ∈ l, -1099511627776 ≤ e.c) → Bnd t x → Bnd (t + l.length) (sweepX l x) := by
  intro l
  induction l generalizing t with
  | nil => intro x _ h; exact h
  | cons e l ih =>
    intro x hc h
    have := ih (t := t + 1) (step x e) (fun f hf => hc f (List.mem_cons_of_mem _ hf)) (h.step (hc e (by simp)))
    rw [show t + (e :: l).length = t + 1 + l.length from by simp; omega]
    exact this
theorem Valid.edges {n : Nat} {l : List Bd} (h : Valid n l) : ∀ e ∈ l.map edge, e.i < n ∧ e.j < n ∧ -1099511627776 ≤ e.c ∧ e.c ≤ 1099511627776 := by
  intro e he
  obtain ⟨b, hb, rfl⟩ := List.mem_map.1 he
  have := h b hb
  show b.I.toNat < n ∧ b.J.toNat < n ∧ -1099511627776 ≤ b.C ∧ b.C ≤ 1099511627776
  omega
theorem take_next {l : List Bd} {i : Nat} (h : i < l.length) : (l.take (i + 1)).map edge = (l.take i).map edge ++ [edge l[i]!] := by
  rw [List.take_add_one, List.getElem?_eq_getElem h, getElem!_pos l i h, List.map_append]; rfl
theorem gx_eq (x : List Int) (i : Nat) : gx x i = x[i]! := by
  unfold gx; rw [List.getElem!_eq_getElem?_getD, List.getD_eq_getElem?_getD]; rfl
theorem step_yes {z : List Int} {b : Bd} (h1 : ¬ z[b.I.toNat]! = 1152921504606846976) (h2 : z[b.I.toNat]! + b.C < z[b.J.toNat]!) : lowers z (edge b) ∧ step z (edge b) = z.set b.J.toNat (z[b.I.toNat]! + b.C) := by
  have : lowers z (edge b) := ⟨by rw [gx_eq]; exact h1, by rw [gx_eq, gx_eq]; exact h2⟩
  refine ⟨this, ?_⟩
  rw [step, if_pos this, gx_eq]; rfl
theorem step_no {z : List Int} {b : Bd} (h : z[b.I.toNat]! = 1152921504606846976 ∨ z[b.J.toNat]! ≤ z[b.I.toNat]! + b.C) : ¬ lowers z (edge b) ∧ step z (edge b) = z := by
  have : ¬ lowers z (edge b) := by
    rintro ⟨h1, h2⟩
    rw [gx_eq] at h1 h2
    rw [gx_eq] at h2
    rcases h with h | h
    · exact h1 h
    · exact Int.not_lt.2 h h2
  exact ⟨this, by rw [step, if_neg this]⟩
end Go.Gh
