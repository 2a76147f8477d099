/- Layer 9: the law OptimalityDivides. -/
import Derived.Test.YtlenfbnoobpdaaaGL09o


namespace Go.Proofs.Ytlenfbnoobpdaaa
set_option linter.unusedVariables false
set_option linter.unusedSimpArgs false
set_option linter.unnecessarySimpa false
set_option linter.unusedSectionVars false
set_option maxRecDepth 10000
open Go.RowKit

theorem leaf_in {c t : Nat} {nodes : List Nd} {o : List (List Int)} : ∀ i, 0 ≤ sumN (leafC c t nodes o) i ∧ sumN (leafC c t nodes o) i ≤ i
  | 0 => by simp [sumN]
  | i + 1 => by
    have h1 := leaf_in (c := c) (t := t) (nodes := nodes) (o := o) i
    have h2 : 0 ≤ leafC c t nodes o i ∧ leafC c t nodes o i ≤ 1 := by
      unfold leafC com
      split
      · split <;> omega
      · omega
    simp only [sumN]
    omega
end Go.Proofs.Ytlenfbnoobpdaaa
