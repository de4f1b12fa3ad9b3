/-
  Which package-level variables the ghost machine knows (this seat: none).
-/
import GoSem.Claim
namespace Go.Gh
def gOn (_ : Program) (_ : Nat) : Bool := false
end Go.Gh
