/-
  strings.Join, as an entry by contract.
-/
import Derived.Test.YtbhgpiakeimmlaaDoorK5
import Derived.Shelf.Strings.OnBuilder
namespace Go.Gh
set_option linter.unusedSimpArgs false
set_option linter.unusedVariables false
open Go.RowKit
variable {P : Program} {f : FuncId}

def rdS : List Value → Option (List ByteArray)
  | [] => some []
  | .string s :: r => (rdS r).map (s :: ·)
  | _ :: _ => none
theorem rdS_spec : ∀ {cs : List Value} {l : List ByteArray}, rdS cs = some l → cs = l.map .string
  | [], l, h => by cases h; rfl
  | v :: r, l, h => by
    unfold rdS at h
    split at h
    · rename_i e; cases e
    · rename_i s r' e
      cases e
      simp only [Option.map_eq_some_iff] at h
      obtain ⟨l', h1, rfl⟩ := h
      rw [rdS_spec h1]; rfl
    · cases h
theorem rdS_map : ∀ l : List ByteArray, rdS (l.map .string) = some l
  | [] => rfl
  | x :: l => by rw [List.map_cons, rdS, rdS_map l]; rfl
/-- the strings of a slice, joined -/
def joinB (xs : List ByteArray) (sep : ByteArray) : List UInt8 := Go.Lib.join (xs.map (·.data.toList)) sep.data.toList
def runJoin : List Value → GHeap → Option (Value × GHeap)
  | [.slice (some ⟨i, o, none⟩) (n + 1) _, .string sep], H => match H.cs i with
    | some cs => match rdS ((cs.drop o).take (n + 1)) with
      | some xs => if xs.length = n + 1 ∧ n + 1 ≤ 140737488355328 ∧ (joinB xs sep).length ≤ 140737488355328 then some (.string ⟨(joinB xs sep).toArray⟩, H) else none
      | none => none
    | none => none
  | _, _ => none
theorem runJoin_some {args : List Value} {H H' : GHeap} {v : Value} (h : runJoin args H = some (v, H')) :
    ∃ i o n gc sep cs xs, args = [.slice (some ⟨i, o, none⟩) (n + 1) gc, .string sep] ∧ H.cs i = some cs ∧ (cs.drop o).take (n + 1) = xs.map .string ∧ (xs.length = n + 1 ∧ n + 1 ≤ 140737488355328 ∧ (joinB xs sep).length ≤ 140737488355328) ∧ v = .string ⟨(joinB xs sep).toArray⟩ ∧ H' = H := by
  unfold runJoin at h
  split at h
  · rename_i i o n gc sep
    split at h
    · rename_i cs hc
      split at h
      · rename_i xs hx
        split at h
        · rename_i hn
          simp only [Option.some.injEq, Prod.mk.injEq] at h
          exact ⟨i, o, n, gc, sep, cs, xs, rfl, hc, rdS_spec hx, hn, h.1.symm, h.2.symm⟩
        · cases h
      · cases h
    · cases h
  · cases h
theorem join_ok (henter : ∀ (asl : Array Value) (w : World), (callFunc f asl).run P w = .ok (.enter f asl) w)
    (hj : ∀ bk o c (xs : List ByteArray) (sep : ByteArray) (w : World), (∀ (j : Nat) x, xs[j]? = some x → w.cell? ⟨bk, o + j, none⟩ = some (.string x)) → bk < w.heap.size → xs.length ≤ 140737488355328 → xs.length ≤ c →
      (Go.Lib.join (xs.map (·.data.toList)) sep.data.toList).length ≤ 140737488355328 →
      Calls P f #[.slice (some ⟨bk, o, none⟩) xs.length c, .string sep] w fun e w' => e = .returned (.string ⟨(Go.Lib.join (xs.map (·.data.toList)) sep.data.toList).toArray⟩) ∧ Below w.heap.size w w') : ExtOk P f runJoin := by
  refine ⟨henter, fun args H v H' h => ?_⟩
  obtain ⟨i, o, n, gc, sep, cs, xs, rfl, hc, hx, ⟨h1, h2, h3⟩, rfl, rfl⟩ := runJoin_some h
  refine ⟨fun hw => Fwd.refl _, fun base ι w args' hw hR ha _ => ?_⟩
  obtain ⟨a1, r, rfl, ha1, hr0⟩ := ha.cons_inv
  obtain ⟨a2, r, rfl, ha2, hr1⟩ := hr0.cons_inv
  obtain rfl := hr1.nil_inv
  obtain rfl : a2 = .string sep := ha2.lit_inv rfl
  cases ha1 with
  | lit hl => simp [litFlat] at hl
  | sl hl hnc hgc hbd =>
    rename_i c' lg
    unfold GHeap.cs at hc
    split at hc
    · rename_i cs' u own hob
      cases hc
      obtain ⟨_, hcells, _⟩ := hR.obj i lg _ hl hob
      have hcell : ∀ (j : Nat) x, xs[j]? = some x → w.cell? ⟨lg.block, lg.off + o + j, none⟩ = some (.string x) := fun j x hxj => by
        have e1 : (xs.map Value.string)[j]? = some (.string x) := by rw [List.getElem?_map, hxj]; rfl
        rw [← hx, List.getElem?_take] at e1
        split at e1
        · rw [List.getElem?_drop] at e1
          obtain ⟨_, v', k1, k2⟩ := hcells (o + j) _ e1
          rw [k2.lit_inv rfl] at k1
          rw [Nat.add_assoc]; exact k1
        · cases e1
      have hrun := hj lg.block (lg.off + o) c' xs sep w hcell (hR.blk i lg hl) (by omega) (by omega) h3
      rw [h1] at hrun
      refine hrun.mono fun e w' hh => ?_
      obtain ⟨rfl, hb⟩ := hh
      exact ⟨_, rfl, ι, VR.litVal rfl, hR.le hb, hb.mono hR.low, Inj.le.refl _, fun j l' e => .inl e⟩
    · cases hc
end Go.Gh
