/- Layer 9: Has, complete, Subset; valid programs of the tape. -/
import Derived.Test.YtjgaacjfoaohnaaGL09k
import Derived.Test.YtjgaacjfoaohnaaGL00
namespace Go.Proofs.Ytjgaacjfoaohnaa
set_option linter.unusedVariables false
set_option linter.unusedSimpArgs false
set_option linter.unnecessarySimpa false
set_option linter.unusedSectionVars false
set_option maxRecDepth 10000
open Go.RowKit

theorem fdiv_pow {b k : Nat} (hk : k ≤ 12) : ((b : Int)).fdiv (2 ^ min (k : Int).toNat IntKind.i64.bits) = (b : Int) / 2 ^ k := by
  have e : min (k : Int).toNat IntKind.i64.bits = k := by
    have : IntKind.i64.bits = 64 := rfl
    omega
  rw [e, Int.fdiv_eq_ediv_of_nonneg]
  exact Int.pow_nonneg (by decide)
theorem shl_pow {n N : Nat} (hn : n ≤ 12) (hN : N = 2 ^ n) : (1 : Int) * 2 ^ (min (n : Int).toNat IntKind.i64.bits) = (N : Int) := by
  have e : min (n : Int).toNat IntKind.i64.bits = n := by
    have : IntKind.i64.bits = 64 := rfl
    omega
  rw [e, hN]; simp
theorem progG_valid {m : Int} {P : Prog} (h : ProgG m P) (hm : m ≤ 12) : validB P = true := by
  have hl := h.len
  have h1 : P.costs.all costB = true := List.all_eq_true.2 fun x hx => by
    have := h.cost x hx
    simp only [costL, List.mem_cons, List.not_mem_nil, or_false] at this
    rw [costB_iff]; omega
  have h2 : P.rows.all (rowB P.costs.length) = true := List.all_eq_true.2 fun r hr => by
    obtain ⟨a, b, c, d⟩ := h.row r hr
    have e : validCoefsB r.coefs = true := List.all_eq_true.2 fun x hx => by
      have := b x hx
      simp only [coefL, List.mem_cons, List.not_mem_nil, or_false] at this
      rw [coefB_iff]; omega
    have e1 : boundB r.least = true := boundB_iff.2 (by omega)
    have e2 : boundB r.most = true := boundB_iff.2 (by omega)
    simp [rowB, a, e, e1, e2]
  have := h.rows
  simp only [validB, h1, h2, Bool.and_true, Bool.and_eq_true, decide_eq_true_eq]
  omega
end Go.Proofs.Ytjgaacjfoaohnaa
