/-
  style: runs of one's own; arguments that are rows.
-/
import Derived.Test.YtjjcgaompnjbdaaDoorSyK1
namespace Go.Gh
set_option linter.unusedSimpArgs false
set_option linter.unusedVariables false
set_option maxHeartbeats 4000000
open Go.RowKit
set_option maxRecDepth 4000

/-- runs of one's own -/
abbrev OR (H0 H : GHeap) (v : Value) (l : List SR) : Prop := OS 5 5 H0 H v l.length (RunsC l)
theorem OR.rr {H0 H : GHeap} {v : Value} {l : List SR} (h : OR H0 H v l) : RR H v l := OwnG.arg h.same.wf h.own (.inr rfl)
theorem OS.unit_ne {s u s' u' n n' : Nat} {H0 H1 H : GHeap} {v w : Value} {xs ys : List Value} (h : OS s u H0 H v n xs) (k : OS s' u' H1 H w n' ys) (hu : u ≠ u') : ∀ a ∈ idOf v, ¬ a ∈ idOf w := fun a ha hb => by
  have h1 := (h.ids ha).2.2
  have h2 := (k.ids hb).2.2
  rw [h1] at h2
  simp only [Option.some.injEq, Prod.mk.injEq] at h2
  exact hu h2.2
theorem OR.flat {H0 H : GHeap} {v : Value} {l : List SR} (h : OR H0 H v l) : flatV v = true := h.rr.flat
theorem OS.weaken {s u n : Nat} {H0 H1 H : GHeap} {v : Value} {xs : List Value} (h : OS s u H1 H v n xs) (hs : Same H0 H1) : OS s u H0 H v n xs := ⟨hs.trans h.same, h.own, h.young.imp id fun k => Nat.le_trans hs.len k⟩
theorem OS.setc {s u n i gc : Nat} {H0 H : GHeap} {v : Value} {xs : List Value} (h : OS s u H0 H v n xs) (e : v = .slice (some ⟨i, 0, none⟩) n gc) {ys : List Value} (hy : ys.length = xs.length) : OS s u H0 (H.put i (.cells ys u true)) v n ys ∧ But (fun k => k = i) H (H.put i (.cells ys u true)) := by
  have hi : i ∈ idOf v := by rw [e]; simp [idOf]
  obtain ⟨h1, h2, h3⟩ := h.ids hi
  have hg : gc = 0 ∨ gc = n + 1 := by
    rcases h.own.at_ with ⟨e2, _⟩ | ⟨j, gc', e2, hg, _⟩
    · rw [e] at e2; cases e2
    · rw [e] at e2; cases e2; exact hg
  exact ⟨⟨h.same.put h1 h2 _, ⟨by rw [hy]; exact h.own.len, .inr ⟨i, gc, e, hg, mine_put_same (mine_obj h3).1⟩⟩, h.young⟩, (But.refl (S := fun k => k = i) h.same.wf).put rfl h2 _⟩
theorem RunsC_set : ∀ (l : List SR) (k : Nat) (t : List UInt8), k < l.length → (RunsC l).set (k * 5) (.string (strB t)) = RunsC (l.set k {l[k]! with t := t})
  | [], k, t, h => by simp at h
  | x :: l, 0, t, _ => by simp [RunsC, runC]
  | x :: l, k + 1, t, h => by
    have ih := RunsC_set l k t (by simpa using h)
    have e : (k + 1) * 5 = (runC x).length + k * 5 := by rw [runC_len]; omega
    have e2 : RunsC (x :: l) = runC x ++ RunsC l := by simp [RunsC]
    rw [e2, e, List.set_append, if_neg (by omega), Nat.add_sub_cancel_left, ih]
    simp [RunsC]
def runShp : Shp := .st [.str, .st [.int .u8, .bool, .bool], .str]
theorem bs_of (s : ByteArray) : s = strB s.data.toList := (strB_of s).symm
theorem run_of {Q : Nat → Prop} {H : GHeap} {r : List Value} (h : RdSQ Q H runShp r) : ∃ x : SR, r = runC x := by
  simp only [runShp, RdSQ, RdSsQ] at h
  obtain ⟨_, _, rfl, ⟨s, rfl, _⟩, _, _, rfl, ⟨_, _, rfl, ⟨c, rfl, _⟩, _, _, rfl, ⟨i, rfl⟩, _, _, rfl, ⟨u, rfl⟩, rfl⟩, _, _, rfl, ⟨y, rfl, _⟩, rfl⟩ := h
  refine ⟨⟨s.data.toList, ⟨c, i, u⟩, y.data.toList⟩, ?_⟩
  simp [runC, strB_of]
end Go.Gh
