/- Layer 5 by the interpreter: the laws SyllabusChecks and SyllabusRolls. -/
import Derived.Test.YtkmagoljpfpgmaaGL05i
namespace Go.Proofs.Ytkmagoljpfpgmaa
set_option linter.unusedVariables false
set_option linter.unusedSimpArgs false
set_option linter.unnecessarySimpa false
set_option linter.unusedSectionVars false
set_option maxRecDepth 10000
open Go.RowKit

theorem snocI (t : Tg) (e : Nat) (ms : List Int) (x : Int) : AV.own t e 1 (ms.map encI ++ [[.int .i64 x]]) = .own t e 1 ((ms ++ [x]).map encI) := by simp [encI]
theorem rollL_len {s : Syl} {m : List Int} : (rollL s m).length ≤ s.tops.length := by
  unfold rollL
  split
  · simp [rolled]
  · simp
end Go.Proofs.Ytkmagoljpfpgmaa
