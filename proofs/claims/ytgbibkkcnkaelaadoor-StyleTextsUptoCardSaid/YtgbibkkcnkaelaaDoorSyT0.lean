/-
  style: strings cut and looked at; escaped texts. Plain and walked.
-/
import Derived.Test.YtgbibkkcnkaelaaDoorSyN4
namespace Go.Gh
set_option linter.unusedSimpArgs false
set_option linter.unusedVariables false
open Go.RowKit
set_option maxRecDepth 4000

theorem strB_ext (l : List UInt8) (a b : Nat) : (strB l).extract a b = strB ((l.take b).drop a) := by
  apply ByteArray.ext
  rw [ByteArray.data_extract]
  apply Array.ext'
  simp [strB, List.extract_eq_take_drop, List.drop_take]
theorem sl_mid {H : GHeap} {l : List UInt8} {k k' : IntKind} {a b : Int} (h0 : 0 ≤ a) (h1 : a ≤ b) (h2 : b ≤ l.length) : gslice .str H (.string (strB l)) (some (.int k a)) (some (.int k' b)) none = some (.string (strB ((l.take b.toNat).drop a.toNat))) := by
  have hs := strB_size l
  simp only [gslice, gbounds]
  rw [if_pos ⟨by omega, by rw [hs]; exact h2⟩]
  simp only
  rw [if_pos ⟨h0, by omega⟩]
  simp [strB_ext]
theorem sl_suf {H : GHeap} {l : List UInt8} {k : IntKind} {a : Int} (h0 : 0 ≤ a) (h2 : a ≤ l.length) : gslice .str H (.string (strB l)) (some (.int k a)) none none = some (.string (strB (l.drop a.toNat))) := by
  have hs := strB_size l
  simp only [gslice, gbounds]
  rw [if_pos ⟨h0, by rw [hs]; omega⟩]
  simp only [Option.map_some]
  rw [strB_ext, hs, List.take_length]
theorem sl_pre {H : GHeap} {l : List UInt8} {k : IntKind} {b : Int} (h0 : 0 ≤ b) (h2 : b ≤ l.length) : gslice .str H (.string (strB l)) none (some (.int k b)) none = some (.string (strB (l.take b.toNat))) := by
  have hs := strB_size l
  simp only [gslice, gbounds]
  rw [if_pos ⟨h0, by rw [hs]; exact h2⟩]
  simp [strB_ext]
theorem strB_at {l : List UInt8} {k : IntKind} {j : Nat} (h : j < l.length) : gix none (.string (strB l)) (.int k j) = some (.int .u8 (l[j]!.toNat : Nat)) := by
  have hs := strB_size l
  simp only [gix, Int.toNat_natCast]
  rw [if_pos (by omega)]
  have h4 : (strB l)[j]? = some l[j]! := by
    rw [getElem?_pos (strB l) j (by omega), getElem!_pos l j h]
    simp [strB, ByteArray.getElem_eq_getElem_data]
  rw [h4]; rfl
end Go.Gh
