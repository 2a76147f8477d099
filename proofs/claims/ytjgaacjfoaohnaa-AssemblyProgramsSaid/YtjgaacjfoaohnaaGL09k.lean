/- Layer 9: awake; the laws OptimalityMany and OptimalityBounds. -/
import Derived.Test.YtjgaacjfoaohnaaGL09j
import Derived.Test.YtjgaacjfoaohnaaGBr2
import Derived.Test.YtjgaacjfoaohnaaGL09g
import Derived.Test.YtjgaacjfoaohnaaMC
namespace Go.Proofs.Ytjgaacjfoaohnaa
set_option linter.unusedVariables false
set_option linter.unusedSimpArgs false
set_option linter.unnecessarySimpa false
set_option linter.unusedSectionVars false
set_option maxRecDepth 10000
open Go.RowKit



def awP : Prog := ⟨[3, 5], [⟨[1, 1], 1, 2⟩]⟩
def awN (r n d : Int) : Nd := ⟨3, 0, 0, 0, r, n, d⟩
theorem awP_fits : Fits awP := ⟨by decide, by decide, by decide⟩
def nd0 : Nd := ⟨0, 0, 0, 0, 0, 0, 0⟩
theorem many_F (m : Nat) (h : 1 ≤ m) : statesF ⟨[], []⟩ (List.replicate m nd0) = (none, if 8191 < m then 3 else 29) := by
  have hv : validB ⟨[], []⟩ = true := by decide
  rw [statesF, if_neg (by rw [hv]; decide), List.length_replicate]
  by_cases h8 : 8191 < m
  · rw [if_pos h8, if_pos h8]
  · rw [if_neg h8, if_neg h8, if_neg (by omega)]
    obtain ⟨k, rfl⟩ : ∃ k, m = k + 1 := ⟨m - 1, by omega⟩
    have e : stepS 0 0 (k + 1) 0 nd0 ((List.replicate (k + 1) []).set 0 (List.replicate 0 (-1))) ((List.replicate (k + 1) false).set 0 true) = none := by
      rw [step_leaf (by rw [List.getElem?_set_self (by simp)]) (by decide), if_neg (by decide)]
    have e2 : List.replicate (k + 1) nd0 = nd0 :: List.replicate k nd0 := List.replicate_succ
    simp only [e2, List.length_nil]
    rw [go_none e]
theorem repl_N (n : Nat) : List.replicate n [AV.int .i64 0, AV.int .i64 0, AV.int .i64 0, AV.int .i64 0, AV.int .i64 0, AV.int .i64 0, AV.int .i64 0] = (List.replicate n nd0).map encN := by simp [encN, nd0]
theorem snocI {xs : List Int} {x : Int} : xs.map encI ++ [[AV.int .i64 x]] = (xs ++ [x]).map encI := by simp [encI]
end Go.Proofs.Ytjgaacjfoaohnaa
