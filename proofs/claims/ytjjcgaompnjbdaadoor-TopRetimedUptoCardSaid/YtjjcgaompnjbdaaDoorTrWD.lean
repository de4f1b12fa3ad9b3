/-
  retime, walked: what is kept while a document is turned.
-/
import Derived.Test.YtjjcgaompnjbdaaDoorTrWC
namespace Go.Gh
set_option linter.unusedSimpArgs false
set_option linter.unusedVariables false
set_option maxHeartbeats 4000000
open Go.RowKit
set_option maxRecDepth 4000

def z8 : List Value := [.string ⟨#[]⟩, .string ⟨#[]⟩, .int .u8 0, .bool false, .int .i64 0, .slice none 0 0, .slice none 0 0, .slice none 0 0]
/-- drifts -/
def drC (p : Int × Int × Int) : List Value := [.int .i64 p.1, .int .i64 p.2.1, .int .i64 p.2.2]
theorem drC_len (p : Int × Int × Int) : (drC p).length = 3 := rfl
theorem dct_mine {H : GHeap} {i : Nat} {es : List (Value × Value)} {c : List Value × Nat} (h : H.dct i = some es) (k : H.mine i = some c) : False := by
  have h2 := (mine_obj k).2
  simp only [GHeap.dct, h2] at h
  cases h
/-- what is kept: the argument, the result's variable, the document (its regions and events), the map -/
structure RtS (H0 H : GHeap) (c m : Nat) (d x : Dc) (L : List (Int × Int)) : Prop where
  same : Same H0 H
  a0 : H.mine H0.len = some (dcC d, 0)
  a1 : H.mine (H0.len + 1) = some (z8, 0)
  ac : H.mine c = some (dcC x, 0)
  hc : H0.len + 2 ≤ c
  am : H.dct m = some (dic L)
  hm : H0.len ≤ m
  lm : m < H.len
  rg : OS 7 7 H0 H x.rv x.R.length (x.R.flatMap rgC)
  ev : EvO H0 H x.ev x.E
  dis : ∀ a ∈ idOf x.rv, ¬ a ∈ idOf x.ev
section
variable {H0 H H' : GHeap} {c m : Nat} {d x : Dc} {L : List (Int × Int)}
theorem RtS.but (h : RtS H0 H c m d x L) {S : Nat → Prop} (hb : But S H H') (h0 : ∀ k, k < H0.len → ¬ S k) {u : Nat} (hu : u ≠ 0 ∧ u ≠ 1 ∧ u ≠ 5 ∧ u ≠ 7) (hS : ∀ k, S k → ∃ cs, H.mine k = some (cs, u)) : RtS H0 H' c m d x L := by
  have hw := h.same.wf
  have no : ∀ {k : Nat} {cs : List Value} {v : Nat}, H.mine k = some (cs, v) → v ≠ u → ¬ S k := fun hm hv hs => by
    obtain ⟨cs', e⟩ := hS _ hs
    rw [hm] at e
    simp only [Option.some.injEq, Prod.mk.injEq] at e
    exact hv e.2
  have mi : ∀ {k : Nat} {cs : List Value} {v : Nat}, H.mine k = some (cs, v) → v ≠ u → H'.mine k = some (cs, v) := fun hm hv => by
    rw [hb.mine (mine_lt hw hm) (no hm hv)]; exact hm
  refine ⟨hb.same h.same h0, mi h.a0 hu.1.symm, mi h.a1 hu.1.symm, mi h.ac hu.1.symm, h.hc, ?_, h.hm, Nat.lt_of_lt_of_le h.lm hb.len, h.rg.but hb h0 fun a ha => no (h.rg.ids ha).2.2 hu.2.2.2.symm, ⟨h.ev.own.but hb h0 fun a ha => no (h.ev.own.ids ha).2.2 hu.2.2.2.symm, fun e he => ?_⟩, h.dis⟩
  · have : H'.obj m = H.obj m := hb.obj m h.lm fun hs => by
      obtain ⟨cs', e⟩ := hS _ hs
      exact dct_mine h.am e
    simp only [GHeap.dct, this]
    exact h.am
  · have hT := h.ev.rows e he
    exact ⟨hT.own.but hb h0 fun a ha => no (hT.own.ids ha).2.2 hu.2.1.symm, fun y hy => (hT.rows y hy).but hb h0 fun a ha => no ((hT.rows y hy).ids ha).2.2 hu.2.2.1.symm⟩
theorem RtS.later (h : RtS H0 H c m d x L) (hs : Same H H') : RtS H0 H' c m d x L :=
  h.but (S := fun _ => False) (But.of hs) (fun _ _ h => h) (u := 2) (by decide) (fun _ h => h.elim)
theorem OS.putD {s u n : Nat} {v : Value} {xs : List Value} {es es' : List (Value × Value)} (h : OS s u H0 H v n xs) (hm : H.dct m = some es) (hl : m < H.len) (h0 : H0.len ≤ m) : OS s u H0 (H.put m (.dict es')) v n xs :=
  h.but (S := fun k => k = m) ((But.refl (S := fun k => k = m) h.same.wf).put rfl hl _) (fun k hk e => by omega) (fun a ha e => by
    have := (h.ids ha).2.2
    rw [e] at this
    exact dct_mine hm this)
theorem RtS.setL (h : RtS H0 H c m d x L) (L' : List (Int × Int)) : RtS H0 (H.put m (.dict (dic L'))) c m d x L' := by
  have ne : ∀ {k : Nat} {v : List Value × Nat}, H.mine k = some v → m ≠ k := fun hk e => by subst e; exact dct_mine h.am hk
  refine ⟨h.same.put h.hm h.lm _, (mine_put_ne (ne h.a0)).trans h.a0, (mine_put_ne (ne h.a1)).trans h.a1, (mine_put_ne (ne h.ac)).trans h.ac, h.hc, dct_put_same, h.hm, h.lm, h.rg.putD h.am h.lm h.hm, ⟨h.ev.own.putD h.am h.lm h.hm, fun e he => ?_⟩, h.dis⟩
  have hT := h.ev.rows e he
  exact ⟨hT.own.putD h.am h.lm h.hm, fun y hy => (hT.rows y hy).putD h.am h.lm h.hm⟩
/-- the variable of the document turns -/
theorem RtS.setX (h : RtS H0 H c m d x L) {x' : Dc} (h1 : x'.rv = x.rv) (h2 : x'.ev = x.ev) (h3 : x'.R = x.R) (h4 : x'.E = x.E) : RtS H0 (H.put c (.cells (dcC x') 0 true)) c m d x' L := by
  have hc := h.hc
  have hcl := mine_lt h.same.wf h.ac
  have ncm : c ≠ m := fun e => by subst e; exact dct_mine h.am h.ac
  refine ⟨h.same.put (by omega) hcl _, (mine_put_ne (by omega)).trans h.a0, (mine_put_ne (by omega)).trans h.a1, mine_put_same (mine_obj h.ac).1, h.hc, (dct_put_ne ncm).trans h.am, h.hm, h.lm, ?_, ⟨?_, fun e he => ?_⟩, ?_⟩
  · rw [h1, h3]; exact h.rg.putU h.ac (by omega) (by decide)
  · rw [h2, h4]; exact h.ev.own.putU h.ac (by omega) (by decide)
  · rw [h4] at he; exact (h.ev.rows e he).putU h.ac (by omega) (by decide) (by decide)
  · rw [h1, h2]; exact h.dis
/-- events of the same rows -/
theorem RtS.setE (h : RtS H0 H c m d x L) {E' : List Ev} {b gc : Nat} (e : x.ev = .slice (some ⟨b, 0, none⟩) x.E.length gc) (hl : E'.length = x.E.length) (hr : ∀ y ∈ E', ∃ z ∈ x.E, y.v = z.v ∧ y.L = z.L) : RtS H0 (H.put b (.cells (E'.flatMap evC) 7 true)) c m d { x with E := E' } L ∧ But (fun k => k = b) H (H.put b (.cells (E'.flatMap evC) 7 true)) ∧ H.mine b = some (x.E.flatMap evC, 7) ∧ H0.len ≤ b := by
  have hb := h.ev.own.ids (a := b) (by rw [e]; simp [idOf])
  obtain ⟨hO, hB⟩ := h.ev.own.setc e (ys := E'.flatMap evC) (by rw [rows_len evC_len, rows_len evC_len, hl])
  have hm := hb.2.2
  have ne : ∀ {k : Nat} {cs : List Value}, H.mine k = some (cs, 0) → b ≠ k := fun hk e => by
    subst e; rw [hk] at hm; simp at hm
  have nm : b ≠ m := fun e => by subst e; exact dct_mine h.am hm
  refine ⟨⟨h.same.put hb.1 hb.2.1 _, (mine_put_ne (ne h.a0)).trans h.a0, (mine_put_ne (ne h.a1)).trans h.a1, (mine_put_ne (ne h.ac)).trans h.ac, h.hc, (dct_put_ne nm).trans h.am, h.hm, h.lm, ?_, ⟨?_, fun y hy => ?_⟩, h.dis⟩, hB, hm, hb.1⟩
  · exact h.rg.but hB (fun k hk e => by omega) fun a ha e2 => h.dis a ha (by rw [e, e2]; simp [idOf])
  · show OS 7 7 H0 _ x.ev E'.length _
    rw [hl]; exact hO
  · obtain ⟨z, hz, h1, h2⟩ := hr y hy
    rw [h1, h2]
    exact (h.ev.rows z hz).putU hm hb.1 (by decide) (by decide)
end
end Go.Gh
