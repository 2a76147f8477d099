/- Layers 1 and 5 by the interpreter: the reference's New. -/
import Derived.Test.YtkmagoljpfpgmaaGL05n
namespace Go.Proofs.Ytkmagoljpfpgmaa
set_option linter.unusedVariables false
set_option linter.unusedSimpArgs false
set_option linter.unnecessarySimpa false
set_option linter.unusedSectionVars false
set_option maxRecDepth 10000
open Go.RowKit

set_option maxRecDepth 100000 in
theorem eq_ratio (a b c d : Int) (w : World) : (Op.equalIn 10000 35 (.agg [Value.int .i64 a, .int .i64 b].toArray) (.agg [Value.int .i64 c, .int .i64 d].toArray)).run Try.prog w = .ok (a == c && b == d) w := by
  have u3 := Try.underlying3
  have a3 := Try.isAgg3
  have z3 := Try.sizeOf3
  have hS : Try.prog.underlying 35 = some (.struct (Try.prog.fieldsOf 35)) := by kernel_rfl
  have hp : Try.prog.stoodInHeld 35 = false := by kernel_rfl
  rw [show (10000 : Nat) = 9999 + 1 from rfl, run_equalIn_agg w 9999 35 _ _ hS hp]
  simp only [Program.fieldsOf, Try.underlying35]
  go_simp
  by_cases h1 : a = c <;> by_cases h2 : b = d <;> simp [h1, h2]
theorem guard_ratio : Try.prog.eqGuardType Try.prog.depth 35 = false := by kernel_rfl
end Go.Proofs.Ytkmagoljpfpgmaa
