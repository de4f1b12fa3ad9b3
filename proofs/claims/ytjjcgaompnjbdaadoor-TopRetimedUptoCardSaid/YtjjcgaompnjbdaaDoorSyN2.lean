/-
  style and its reference, walked: Norm, Of.
-/
import Derived.Test.YtjjcgaompnjbdaaDoorSyN1
namespace Go.Gh
set_option linter.unusedSimpArgs false
set_option linter.unusedVariables false
set_option maxHeartbeats 4000000
open Go.RowKit
set_option maxRecDepth 4000

/-- the result's place, set -/
theorem OR.res {H0 H : GHeap} {w : Value} {out : List SR} (h : OR H0 H w out) {i : Nat} {c : List Value} (m2 : H.mine i = some (c, 0)) (hc : c.length = 1) (hi : H0.len ≤ i) :
    gst (some 1) H (.pointer (some ⟨i, 0, none⟩)) (rowV w) = some (H.put i (.cells [w] 0 true)) ∧ OR H0 (H.put i (.cells [w] 0 true)) w out ∧ (H.put i (.cells [w] 0 true)).rdn i 0 1 = some (rowV w) := by
  refine ⟨?_, ?_, rdn_put_all rfl⟩
  · have hg : gsetn c 0 1 (rowV w) = some [w] := gsetn_all (vs := #[w]) hc rfl (by simpa using h.flat)
    rw [gst_n, m2, Option.bind_some, hg]; rfl
  · have hB6 : But (fun z => z = i) H (H.put i (.cells [w] 0 true)) := (But.refl (S := fun z => z = i) h.same.wf).put rfl (mine_lt h.same.wf m2) _
    exact h.but hB6 (fun z hz e2 => by omega) fun a ha e2 => by
      have := (h.ids ha).2.2
      rw [e2, m2] at this
      simp at this
theorem OR.weaken {H0 H1 H : GHeap} {v : Value} {l : List SR} (h : OR H1 H v l) (hs : Same H0 H1) : OR H0 H v l := OS.weaken h hs
theorem rowV_eq (w : Value) : rowV w = .agg [w].toArray := rfl
theorem fill_of {t : List UInt8} {s : Sy} : fillL [.string ⟨#[]⟩, .int .u8 0, .bool false, .bool false, .string ⟨#[]⟩] [(0, 1, .string (strB t)), (1, 3, syV s)] = some (runC ⟨t, s, []⟩) := by
  have h1 : (syV s).cells.toList = [.int .u8 s.c, .bool s.i, .bool s.u] := rfl
  have h2 : (Value.string (strB t)).cells.toList = [.string (strB t)] := rfl
  simp [fillL, h1, h2, flatV, runC]
  rfl
theorem RR.sy {H : GHeap} {v : Value} {l : List SR} (h : RR H v l) {k : Nat} (hk : k < l.length) : H.rdn (blk v) (ofs v + k * 5 + 1) 3 = some (syV l[k]!.s) := by
  have h1 := h.rowN hk
  have h2 : l[k]! = l[k]! := rfl
  obtain ⟨a, gc, e, _⟩ := h.sl
  have h3 := h.rd.rdn (by decide) (c := k * 5 + 1) (m := 3) (by decide) (by rw [RunsC_len]; omega)
  rw [Nat.add_assoc, h3]
  have h4 : (RunsC l).drop (k * 5 + 1) = ((RunsC l).drop (k * 5)).drop 1 := by rw [List.drop_drop]
  have h5 := rows_part runC_len l k hk
  have h6 : (((RunsC l).drop (k * 5)).drop 1).take 3 = ((((RunsC l).drop (k * 5)).take 5).drop 1).take 3 := by
    rw [List.drop_take, List.take_take]; rfl
  rw [h4, h6]
  unfold RunsC
  rw [h5]
  rfl
end Go.Gh
