/-
  One more function of Go's library that the ghost machine takes by its contract: strings.Contains.
-/
import Derived.Test.YtjjcgaompnjbdaaDoorLb
import Derived.Lib.IndexMore
namespace Go.Gh
set_option linter.unusedSimpArgs false
set_option linter.unusedVariables false
set_option maxHeartbeats 4000000

/-- strings.Contains -/
def runContains : List Value → Option Value
  | [.string s, .string sub] => if s.size < 4294967281 then some (.bool (Go.Lib.contains s.data.toList sub.data.toList)) else none
  | _ => none
end Go.Gh
