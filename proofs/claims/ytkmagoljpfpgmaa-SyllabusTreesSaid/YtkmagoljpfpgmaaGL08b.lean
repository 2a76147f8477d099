/- Layer 8 by the interpreter: isChoice, sumOver, Meets, Span, Dead. -/
import Derived.Test.YtkmagoljpfpgmaaGL08a
namespace Go.Proofs.Ytkmagoljpfpgmaa
set_option linter.unusedVariables false
set_option linter.unusedSimpArgs false
set_option linter.unnecessarySimpa false
set_option linter.unusedSectionVars false
set_option maxRecDepth 10000

theorem valid_rows {P : Prog} (h : validB P = true) {r : Row} (hr : r ∈ P.rows) : r.coefs.length = P.costs.length ∧ (∀ i, i < r.coefs.length → -10000 ≤ nth r.coefs i ∧ nth r.coefs i ≤ 10000) ∧ (-1000000 ≤ r.least ∧ r.least ≤ 1000000) ∧ (-1000000 ≤ r.most ∧ r.most ≤ 1000000) := by
  have h1 := List.all_eq_true.1 (validB_parts h).2.2.2 r hr
  obtain ⟨a, b, c, d⟩ := rowB_parts h1
  exact ⟨a, fun i hi => coefB_iff.1 (AllTo.of_all b i hi), boundB_iff.1 c, boundB_iff.1 d⟩
/-- A program that is not too long to look at. -/
def Fits (P : Prog) : Prop := P.costs.length ≤ 1000000 ∧ P.rows.length ≤ 1000000 ∧ ∀ r ∈ P.rows, r.coefs.length ≤ 1000000
def spanV (cs st : List Int) : AV := .tup [.int .i64 (spanF cs st).1, .int .i64 (spanF cs st).2, .bool (spanB cs st)]
end Go.Proofs.Ytkmagoljpfpgmaa
