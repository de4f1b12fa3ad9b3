/-
  Functions of Go's library that the ghost machine takes by their contracts: what they answer.
-/
import Derived.Test.YtjjcgaompnjbdaaDoorK4
import Derived.Lib.ValidU
import Derived.Lib.Bytealg
namespace Go.Gh
set_option linter.unusedSimpArgs false
set_option linter.unusedVariables false
set_option maxHeartbeats 4000000

/-- unicode/utf8.ValidString -/
def runValid : List Value → Option Value
  | [.string s] => if s.size ≤ 9223372036854775807 then some (.bool (Go.Lib.validD s.data.toList)) else none
  | _ => none
/-- internal/stringslite.IndexByte -/
def runIndexByte : List Value → Option Value
  | [.string s, .int .u8 c] => some (.int .i64 (Go.Lib.indexByte s.data.toList c.toNat.toUInt8))
  | _ => none
end Go.Gh
