/-
  style and its reference, walked: Of, Plain, Len.
-/
import Derived.Test.YtgbibkkcnkaelaaDoorSyN2
namespace Go.Gh
set_option linter.unusedSimpArgs false
set_option linter.unusedVariables false
open Go.RowKit
set_option maxRecDepth 4000

/-! ### the text -/
/-! ### the length -/
def vR (x : SR) : Bool := vldB (strB x.t)
end Go.Gh
