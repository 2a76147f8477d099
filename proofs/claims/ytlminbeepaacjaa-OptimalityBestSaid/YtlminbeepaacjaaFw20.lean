/- A plain interpreter, part 20: more moves. -/
import Derived.Test.YtlminbeepaacjaaFw19
namespace Go.Proofs.Ytlminbeepaacjaa
set_option linter.unusedVariables false

theorem pc_nil (z : Nat) : PresC .nil (.lst z []) := ⟨z, rfl⟩
end Go.Proofs.Ytlminbeepaacjaa
