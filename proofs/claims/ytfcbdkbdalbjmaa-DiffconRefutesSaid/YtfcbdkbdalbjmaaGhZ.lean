/-
  Which package-level variables the ghost machine knows (this seat: none).
-/
import GoSem.Claim
namespace Go.Gh
set_option linter.unusedVariables false
set_option linter.unusedSimpArgs false
def gOn (_ : Program) (_ : Nat) : Bool := false
end Go.Gh
