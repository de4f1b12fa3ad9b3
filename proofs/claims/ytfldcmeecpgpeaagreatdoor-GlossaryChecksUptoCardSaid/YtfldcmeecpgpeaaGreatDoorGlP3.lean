/-
  Plain: the error of a glossary; the term of a line; what a text is parsed to.
-/
import Derived.Test.YtfldcmeecpgpeaaGreatDoorGlP2
import Derived.Test.YtfldcmeecpgpeaaGreatDoorGlW3
namespace Go.Gh
set_option linter.unusedSimpArgs false
set_option linter.unusedVariables false
set_option maxHeartbeats 4000000
open Go.RowKit Go.Lib
set_option maxRecDepth 100000
def fstN (f : Nat → Nat) (n : Nat) : Nat := match (List.range n).find? (fun i => f i != 0) with
  | some i => f i
  | none => 0
theorem fstN_none {f : Nat → Nat} {n : Nat} (h : ∀ j, j < n → f j = 0) : fstN f n = 0 := by
  unfold fstN
  have : (List.range n).find? (fun i => f i != 0) = none := by
    rw [List.find?_eq_none]
    intro x hx
    rw [h x (List.mem_range.1 hx)]; decide
  rw [this]
theorem fstN_some {f : Nat → Nat} {n i : Nat} (hi : i < n) (h : ∀ j, j < i → f j = 0) (hf : f i ≠ 0) : fstN f n = f i := by
  unfold fstN
  have h1 : List.range n = List.range i ++ (i :: (List.range (n - (i + 1))).map (· + (i + 1))) := by
    have e1 : n = i + ((n - (i + 1)) + 1) := by omega
    conv => lhs; rw [e1, List.range_add]
    congr 1
    rw [List.range_succ_eq_map, List.map_cons, List.map_map, Nat.add_zero]
    congr 1
    apply List.map_congr_left
    intro x _
    simp only [Function.comp_apply]; omega
  have : (List.range n).find? (fun i => f i != 0) = some i := by
    rw [h1, List.find?_append]
    have h2 : (List.range i).find? (fun i => f i != 0) = none := by
      rw [List.find?_eq_none]
      intro x hx
      rw [h x (List.mem_range.1 hx)]; decide
    rw [h2, Option.none_or, List.find?_cons_of_pos (by simpa using hf)]
  rw [this]
theorem fstN_congr {f g : Nat → Nat} {n : Nat} (h : ∀ i, i < n → f i = g i) : fstN f n = fstN g n := by
  unfold fstN
  have h1 : ∀ k, k ≤ n → (List.range k).find? (fun i => f i != 0) = (List.range k).find? (fun i => g i != 0) := by
    intro k hk
    induction k with
    | zero => rfl
    | succ k ih =>
      rw [List.range_succ, List.find?_append, List.find?_append, ih (by omega)]
      simp only [List.find?_cons, List.find?_nil]
      rw [h k (by omega)]
  rw [h1 _ (Nat.le_refl _)]
  cases hf : (List.range n).find? (fun i => g i != 0) with
  | none => rfl
  | some i => exact h i (List.mem_range.1 (List.mem_of_find?_eq_some hf))
def alkB (a b : List UInt8) : Bool := vldB (strB a) && vldB (strB b) && decide (foldB (strB a) = foldB (strB b))
def chkG (g : List (List UInt8)) (k : Nat) : Nat := if phrB g[k]! = false then 4 else if (g.take k).any (fun x => alkB x g[k]!) = true then 7 else 0
def chkT (l : List Tm) (i : Nat) : Nat := if phrB l[i]!.s = false then 4 else if (l.take i).any (fun x => alkB x.s l[i]!.s) = true then 7 else if l[i]!.g.length < 1 ∨ 8 < l[i]!.g.length then 9 else fstN (chkG l[i]!.g) l[i]!.g.length
def chkF (l : List Tm) : Nat := if 64 < l.length then 9 else fstN (chkT l) l.length
def errQ : Nat → List Fd → Option Nat
  | 0, [] => none
  | _ + 1, [] => some 0
  | n, f :: r => if f.q = true then errQ (n - 1) r else some f.c
def isT (f : Fd) : Bool := !f.q && decide (f.t = [84, 69, 82, 77])
def lnErr (x : Ln) : Option Nat := if isT x.f[0]! = true then errQ 2 (x.f.drop 1) else some x.f[0]!.c
def dgM (M : List Ln) (n : Nat) : List Dg := (List.range n).filterMap fun i => (lnErr M[i]!).map fun c => ⟨M[i]!.n, c, 4⟩
theorem dgM_succ (M : List Ln) (n : Nat) : dgM M (n + 1) = dgM M n ++ (match lnErr M[n]! with | some c => [⟨M[n]!.n, c, 4⟩] | none => []) := by
  unfold dgM
  rw [List.range_succ, List.filterMap_append]
  congr 1
  simp only [List.filterMap_cons, List.filterMap_nil]
  cases lnErr M[n]! <;> rfl
structure T0 where
  s : List UInt8
  g : List (List UInt8)
deriving Inhabited, DecidableEq
def Tm.t0 (x : Tm) : T0 := ⟨x.s, x.g⟩
def T0.tm (x : T0) : Tm := ⟨x.s, .slice none 0 0, x.g⟩
def lnT (x : Ln) : T0 := ⟨x.f[1]!.t, (x.f.drop 2).map (·.t)⟩
def tmM (M : List Ln) (n : Nat) : List T0 := (List.range n).map fun i => lnT M[i]!
theorem tmM_succ (M : List Ln) (n : Nat) : tmM M (n + 1) = tmM M n ++ [lnT M[n]!] := by
  unfold tmM; rw [List.range_succ, List.map_append]; rfl
theorem chkF_t0 {l l' : List Tm} (h : l.map Tm.t0 = l'.map Tm.t0) : chkF l = chkF l' := by
  have hlen : l.length = l'.length := by simpa using congrArg List.length h
  have hat : ∀ i, i < l.length → l[i]!.s = l'[i]!.s ∧ l[i]!.g = l'[i]!.g := fun i hi => by
    have h1 : (l.map Tm.t0)[i]? = (l'.map Tm.t0)[i]? := by rw [h]
    rw [List.getElem?_map, List.getElem?_map, List.getElem?_eq_getElem hi, List.getElem?_eq_getElem (by omega)] at h1
    simp only [Option.map_some, Option.some.injEq, Tm.t0, T0.mk.injEq] at h1
    rw [getElem!_pos l i hi, getElem!_pos l' i (by omega)]
    exact h1
  have hany : ∀ (i : Nat) (x : List UInt8), (l.take i).any (fun y => alkB y.s x) = (l'.take i).any (fun y => alkB y.s x) := fun i x => by
    have h1 : ∀ m : List Tm, m.any (fun y => alkB y.s x) = (m.map Tm.t0).any (fun y => alkB y.s x) := fun m => by
      induction m with
      | nil => simp only [List.map_nil, List.any_nil]
      | cons y m ih => simp only [List.map_cons, List.any_cons, ih, Tm.t0]
    rw [h1, h1, List.map_take, List.map_take, h]
  have hT : ∀ i, i < l.length → chkT l i = chkT l' i := fun i hi => by
    unfold chkT
    rw [(hat i hi).1, (hat i hi).2, hany]
  unfold chkF
  rw [← hlen]
  split
  · rfl
  · exact fstN_congr hT
def parT (src : List UInt8) : List T0 :=
  if splD src = [] ∧ dgM (splO src) (splO src).length = [] ∧ chkF ((tmM (splO src) (splO src).length).map T0.tm) = 0 then tmM (splO src) (splO src).length else []
def parD (src : List UInt8) : List Dg :=
  if splD src ≠ [] then splD src else if dgM (splO src) (splO src).length ≠ [] then (dgM (splO src) (splO src).length).take 50
  else if chkF ((tmM (splO src) (splO src).length).map T0.tm) ≠ 0 then [⟨1, 1, chkF ((tmM (splO src) (splO src).length).map T0.tm)⟩] else []
end Go.Gh
