/-
  glossary's reference, walked: flat, Contains.
-/
import Derived.Test.YtfldcmeecpgpeaaDoorGlW1
namespace Go.Gh
set_option linter.unusedSimpArgs false
set_option linter.unusedVariables false
open Go.RowKit Go.Lib
set_option maxRecDepth 4000
theorem gb_addB {e : Option EqK} {a b : List UInt8} (h : a.length + b.length ≤ 9223372036854775807) : gbin .add e (.string (strB a)) (.string (strB b)) = some (.string (strB (a ++ b))) := by
  have := gb_addS (k := e) (a := a) (e := strB b) (by simpa [toL, strB] using h)
  rw [this]; simp [toL, strB]
theorem add_c {e : Option EqK} {a b : List UInt8} {B : ByteArray} (hB : B = strB b) (h : a.length + b.length ≤ 9223372036854775807) : gbin .add e (.string (strB a)) (.string B) = some (.string (strB (a ++ b))) := by
  rw [hB]; exact gb_addB h
theorem by10 {b : UInt8} : (((b.toNat : Nat) : Int) = 10) = (b = 10) := byte_eq (n := 10) (by decide)
end Go.Gh
