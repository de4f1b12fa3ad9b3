/-
  strings.Split, as an entry by contract.
-/
import Derived.Test.YtfldcmeecpgpeaaGreatDoorK5
import Derived.Shelf.Strings.Split
namespace Go.Gh
set_option linter.unusedSimpArgs false
set_option linter.unusedVariables false
open Go.RowKit
variable {P : Program} {f : FuncId}
def splB (s sep : ByteArray) : List ByteArray := Go.Lib.splitB sep 0 (Go.Lib.countB s sep) s
def runSplit : List Value → GHeap → Option (Value × GHeap)
  | [.string s, .string sep], H =>
    if s.size < 4294967281 ∧ 1 ≤ sep.size ∧ (splB s sep).length = Go.Lib.countB s sep + 1 then some (.slice (some ⟨H.len, 0, none⟩) (Go.Lib.countB s sep + 1) (Go.Lib.countB s sep + 2), H.add (some (.cells ((splB s sep).map .string) 1 true)))
    else none
  | _, _ => none
theorem runSplit_some {args : List Value} {H H' : GHeap} {v : Value} (h : runSplit args H = some (v, H')) :
    ∃ s sep, args = [.string s, .string sep] ∧ (s.size < 4294967281 ∧ 1 ≤ sep.size ∧ (splB s sep).length = Go.Lib.countB s sep + 1) ∧ v = .slice (some ⟨H.len, 0, none⟩) (Go.Lib.countB s sep + 1) (Go.Lib.countB s sep + 2) ∧ H' = H.add (some (.cells ((splB s sep).map .string) 1 true)) := by
  unfold runSplit at h
  split at h
  · rename_i s sep
    split at h
    · rename_i hc
      simp only [Option.some.injEq, Prod.mk.injEq] at h
      exact ⟨s, sep, rfl, hc, h.1.symm, h.2.symm⟩
    · cases h
  · cases h
theorem split_ok {t : TypeId} (henter : ∀ (asl : Array Value) (w : World), (callFunc f asl).run P w = .ok (.enter f asl) w)
    (hj : ∀ (s sep : ByteArray) (m : Int) (w : World), s.size < 4294967281 → w.cell? ⟨gML, 0, none⟩ = some (.int .i64 m) → 1 ≤ sep.size →
      Calls P f #[.string s, .string sep] w fun e w' =>
        e = .returned (.slice (some ⟨w.heap.size, 0, none⟩) (Go.Lib.countB s sep + 1) (Go.Lib.countB s sep + 1)) ∧ w' = w.alloc (.cells ((Go.Lib.splitB sep 0 (Go.Lib.countB s sep) s).map Value.string).toArray t)) : ExtOk P f runSplit := by
  refine ⟨henter, fun args H v H' h => ?_⟩
  obtain ⟨s, sep, rfl, ⟨h1, h2, h3⟩, rfl, rfl⟩ := runSplit_some h
  refine ⟨fun hw => Fwd.add hw _, fun base ι w args' hw hR ha hfree => ?_⟩
  obtain ⟨a1, r, rfl, ha1, hr0⟩ := ha.cons_inv
  obtain ⟨a2, r, rfl, ha2, hr1⟩ := hr0.cons_inv
  obtain rfl := hr1.nil_inv
  obtain rfl : a1 = .string s := ha1.lit_inv rfl
  obtain rfl : a2 = .string sep := ha2.lit_inv rfl
  obtain ⟨m, hm⟩ := hR.door.2.2
  have hn : ι H.len = none := hfree H.len (Nat.le_refl _) (by rw [len_add]; omega)
  refine (hj s sep m w h1 hm h2).mono fun e w' hh => ?_
  obtain ⟨rfl, rfl⟩ := hh
  have hcs : ∀ v ∈ (splB s sep).map Value.string, flatV v = true := fun v hv => by
    obtain ⟨x, _, rfl⟩ := List.mem_map.1 hv; rfl
  have hvr : VRs ι ((splB s sep).map Value.string) ((splB s sep).map Value.string) := ⟨rfl, fun j v hv => ⟨v, hv, VR.litVal (by
    obtain ⟨x, _, rfl⟩ := List.mem_map.1 (List.mem_of_getElem? hv); rfl)⟩⟩
  obtain ⟨k1, k2⟩ := alloc_ok (P := P) (H := H) (u := 1) (C := ((splB s sep).map Value.string).toArray) (t := t) (fr := (0, 0)) hR hn (Le.refl w) rfl hcs hvr (fun j v hv => by simpa using hv) (by simp) (.inl rfl) (by simp [TyOk])
  refine ⟨_, rfl, ι.upd H.len ⟨w.heap.size, 0, usz 1, ((splB s sep).map Value.string).toArray.size⟩, ?_, k2, k1.mono hR.low, Inj.le_upd _ hn, fun i l e => ?_⟩
  · have e2 := VR.sl (ι := ι.upd H.len ⟨w.heap.size, 0, usz 1, ((splB s sep).map Value.string).toArray.size⟩) (i := H.len) (o := 0) (n := Go.Lib.countB s sep + 1) (gc := Go.Lib.countB s sep + 2) (c := Go.Lib.countB s sep + 1) (Inj.upd_same ι H.len _) (Nat.le_refl _) (.inr rfl) (.inr (by
      show 0 + 0 + (Go.Lib.countB s sep + 1) * 1 ≤ ((splB s sep).map Value.string).toArray.size
      simp [h3]))
    exact e2
  · by_cases hi : i = H.len
    · subst hi
      rw [Inj.upd_same] at e
      cases e
      exact .inr ⟨Nat.le_refl _, by rw [len_add]; omega, hR.low⟩
    · rw [Inj.upd_ne _ _ hi] at e; exact .inl e
end Go.Gh
