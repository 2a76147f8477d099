/- Layer 10: the reference's All; the law AssemblyAll. -/
import Derived.Test.YtjgaacjfoaohnaaGL10f
import Derived.Test.YtjgaacjfoaohnaaGL09f
namespace Go.Proofs.Ytjgaacjfoaohnaa
set_option linter.unusedVariables false
set_option linter.unusedSimpArgs false
set_option linter.unnecessarySimpa false
set_option linter.unusedSectionVars false
set_option maxRecDepth 10000
open Go.RowKit
theorem all_form (P : Prog) : ∃ la ea, allV P = .tup [.lst 1 (List.map encS la), .int .i64 ea] ∧ (la.length ≤ 4096 ∧ ∀ c ∈ la, c.length ≤ 1000) := by
  unfold allV
  split
  · next hv =>
    refine ⟨allF P, 0, rfl, all_count hv, fun c hc => ?_⟩
    have h1 := asc_len (all_mem.1 hc).1
    have h2 := (validB_parts hv).1
    omega
  · exact ⟨[], 1, rfl, by simp, by simp⟩
end Go.Proofs.Ytjgaacjfoaohnaa
