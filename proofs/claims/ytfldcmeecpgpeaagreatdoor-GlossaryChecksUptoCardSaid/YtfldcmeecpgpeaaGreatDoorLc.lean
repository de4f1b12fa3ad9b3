/-
  More functions of Go's library that the ghost machine takes by their contracts: strings.Contains, strings.ReplaceAll.
-/
import Derived.Test.YtfldcmeecpgpeaaGreatDoorLb
import Derived.Lib.IndexMore
import Derived.Lib.Replace
import Derived.Lib.Split
namespace Go.Gh
set_option linter.unusedSimpArgs false
set_option linter.unusedVariables false
def runContains : List Value → Option Value
  | [.string s, .string sub] => if s.size < 4294967281 then some (.bool (Go.Lib.contains s.data.toList sub.data.toList)) else none
  | _ => none
def runReplaceAll : List Value → Option Value
  | [.string s, .string old, .string new] => if s.size < 4294967281 ∧ 1 ≤ old.size ∧ s.size + Go.Lib.countB s old * new.size ≤ 140737488355328 then some (.string ⟨(Go.Lib.replaceAll s.data.toList old.data.toList new.data.toList).toArray⟩) else none
  | _ => none
end Go.Gh
