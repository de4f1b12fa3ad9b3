/-
  What the row's frame tells of a slice of integers that came in, as a list.
-/
import Derived.Test.YtleolanjlhbjlaaLib
namespace Go.Proofs.Ytleolanjlhbjlaa
open Go.RowKit

/-- A slice of integers that came in: nil, or it leads to a row of 'cap' cells, the numbers zs, each fitting its kind; the first 'len' are its elements. -/
def IsRow (k : IntKind) (w : World) (a : Option Addr) (len cap : Nat) (zs : List Int) : Prop :=
  (a = none ∧ len = 0 ∧ cap = 0 ∧ zs = []) ∨
  ∃ x, a = some x ∧ len ≤ cap ∧ cap ≤ maxLen ∧ zs.length = cap ∧ (∀ i, i < zs.length → w.cell? (x.add i) = some (.int k (zs.getD i 0))) ∧ ∀ n ∈ zs, (Lit.int k n).wf = true

theorem IsRow.rd {k : IntKind} {w : World} {a : Option Addr} {len cap : Nat} {zs : List Int} (h : IsRow k w a len cap zs) :
    Rd w w.heap.size 1 a len ((zs.take len).map (Value.int k)) ∧ len ≤ cap ∧ cap ≤ 9223372036854775807 ∧ (zs.take len).length = len ∧ ∀ n ∈ zs.take len, (Lit.int k n).wf = true := by
  rcases h with ⟨rfl, rfl, rfl, rfl⟩ | ⟨x, rfl, h1, h2, h3, h4, h5⟩
  · exact ⟨Rd.none_, Nat.le_refl _, by omega, rfl, by simp⟩
  · unfold maxLen at h2
    have hl : (zs.take len).length = len := by simp; omega
    refine ⟨⟨by simp; omega, fun hn => ?_⟩, h1, h2, hl, fun n hn => h5 n (List.mem_of_mem_take hn)⟩
    obtain ⟨b, off, spot⟩ := x
    have h0 := h4 0 (by omega)
    have hs : spot = none := by simpa [Addr.add] using World.cell?_spot h0
    subst hs
    refine ⟨b, off, rfl, ?_, fun j u hu => ?_⟩
    · exact World.block_lt_of_cell? w ((⟨b, off, none⟩ : Addr).add 0) h0 |> fun h => by simpa [Addr.add] using h
    · have hj : j < len := by
        have := (List.getElem?_eq_some_iff.1 hu).1
        simp at this
        omega
      have := h4 j (by omega)
      rw [add_none] at this
      rw [this]
      rw [List.getElem?_map, List.getElem?_take, if_pos hj] at hu
      have hz : zs[j]? = some zs[j] := List.getElem?_eq_getElem (by omega)
      rw [hz] at hu
      simp at hu
      rw [← hu]
      simp [List.getD, hz]

theorem u8_list : ∀ zs : List Int, (∀ n ∈ zs, (Lit.int .u8 n).wf = true) → ∃ xs : List UInt8, zs.map (Value.int .u8) = U8s xs
  | [], _ => ⟨[], rfl⟩
  | z :: zs, h => by
    obtain ⟨xs, hx⟩ := u8_list zs (fun n hn => h n (List.mem_cons_of_mem _ hn))
    have hz := h z (by simp)
    simp only [Lit.wf, IntKind.min, IntKind.max, IntKind.signed, IntKind.bits, Bool.and_eq_true] at hz
    refine ⟨UInt8.ofNat z.toNat :: xs, ?_⟩
    simp only [List.map_cons]
    rw [hx]
    congr 2
    rw [UInt8.toNat_ofNat']
    simp at hz
    omega

theorem IsRow.bytes {w : World} {a : Option Addr} {len cap : Nat} {zs : List Int} (h : IsRow .u8 w a len cap zs) :
    ∃ xs : List UInt8, Rd w w.heap.size 1 a len (U8s xs) ∧ xs.length = len ∧ len ≤ cap ∧ cap ≤ 9223372036854775807 := by
  obtain ⟨h1, h2, h3, h4, h5⟩ := h.rd
  obtain ⟨xs, hx⟩ := u8_list _ h5
  refine ⟨xs, by rw [← hx]; exact h1, ?_, h2, h3⟩
  have := congrArg List.length hx
  rw [List.length_map, List.length_map, h4] at this
  exact this.symm
end Go.Proofs.Ytleolanjlhbjlaa
