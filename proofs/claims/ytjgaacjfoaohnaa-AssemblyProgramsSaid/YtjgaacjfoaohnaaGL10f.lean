/- Layer 10: awake. -/
import Derived.Test.YtjgaacjfoaohnaaGL10e
import Derived.Test.YtjgaacjfoaohnaaGBr2
namespace Go.Proofs.Ytjgaacjfoaohnaa
set_option linter.unusedVariables false
set_option linter.unusedSimpArgs false
set_option linter.unnecessarySimpa false
set_option linter.unusedSectionVars false
set_option maxRecDepth 10000
open Go.RowKit
def aP1 : Prog := ⟨[3, 5, 3], [⟨[1, 1, 1], 1, 3⟩]⟩
def aP2 : Prog := repP aP1 [0]
def aL1 : Pln := ⟨true, [0], 3, certF aP1 true 3⟩
def aL2 : Pln := ⟨true, [2], 3, certF aP2 true 3⟩
theorem fits1 : Fits aP1 := ⟨by decide, by decide, by decide⟩
theorem fits2 : Fits aP2 := ⟨by decide, by decide, by decide⟩
theorem best1 : bestF aP1 = (true, 3, [0]) := by decide +kernel
theorem best2 : bestF aP2 = (true, 3, [2]) := by decide +kernel
theorem valid1 : validB aP1 = true := by decide +kernel
theorem valid2 : validB aP2 = true := by decide +kernel
theorem solve1 : solveV aP1 = .tup [planV aL1, .int .i64 0] := by rw [solveV, if_pos valid1, best1]; rfl
theorem solve2 : solveV aP2 = .tup [planV aL2, .int .i64 0] := by rw [solveV, if_pos valid2, best2]; rfl
theorem rep1 : repV aP1 true [0] = .tup [progV aP2, .int .i64 0] := by
  have : repE aP1 true [0] = 0 := by decide +kernel
  rw [repV, this]; rfl
theorem check1 : checkF aP1 aL1 = 0 := by decide +kernel
theorem cert1 : (certF aP1 true 3).length ≤ 1000000 := Nat.le_trans tree_len (by decide +kernel)
set_option maxHeartbeats 2000000 in
theorem awake10_ok : Good Try.prog TT false 14 [] (· = .bool true) := by
  have hS1 := (solve_ok aP1 fits1).mono fun r h => h.trans solve1
  have hS2 := (solve_ok aP2 fits2).mono fun r h => h.trans solve2
  have hR := (repeatP_ok aP1 aL1 fits1 (by decide)).mono fun r h => h.trans rep1
  have hC := (check_ok aP1 aL1 fits1 cert1 (by decide)).mono fun r h => h.trans (int_eq check1)
  have hI1 := ints_ok [0] [0] (by decide) (by decide)
  have hI2 := ints_ok [2] [2] (by decide) (by decide)
  refine good_of mixed tabOk Try.func14 rfl rfl Try.ntmps14 Try.results14 rfl rfl ?_
  (conv => whnf); (repeat' (first | (refine arith_i ⟨by omega, by omega⟩ ?_; conv => whnf) | (refine arith_u ⟨by omega, by omega⟩ ?_; conv => whnf) | (refine arith_8 ⟨by omega, by omega⟩ ?_; conv => whnf) | (refine need_i (by first | omega | (simp only [List.length_append, List.length_cons, List.length_nil, List.length_map, List.length_replicate, List.length_modify]; omega)) ?_; conv => whnf) | ((with_reducible refine branch_tt ?_); conv => whnf) | ((with_reducible refine branch_ff ?_); conv => whnf) | (with_reducible refine branch_not ?_) | ((refine call_e hS1 ?_); conv => whnf) | ((refine call_e hR ?_); conv => whnf) | ((refine call_e hS2 ?_); conv => whnf) | ((refine call_e hI1 ?_); conv => whnf) | ((refine call_e hI2 ?_); conv => whnf) | ((refine call_e hC ?_); conv => whnf) | ((with_reducible refine slc_e ?_); conv => whnf) | ((with_reducible refine callS_a ?_); conv => whnf) | ((with_reducible refine own_e ?_); conv => whnf) | ((with_reducible refine branch_d (fun hq => ?_) (fun hq => ?_)) <;> (try (exfalso; omega)) <;> (conv => whnf)) | ((with_reducible refine branch_e (fun hq => ?_) (fun hq => ?_)) <;> (try (exfalso; omega)) <;> (conv => whnf)) | ((with_reducible refine branch_n (fun hq => ?_) (fun hq => ?_)) <;> (try (exfalso; omega)) <;> (conv => whnf)) | ((with_reducible refine branch_i (fun hq => ?_) (fun hq => ?_)) <;> (try (exfalso; omega)) <;> (conv => whnf))))
  all_goals first
    | exact ret_p rfl rfl
    | (exfalso; exact absurd rfl hq)
    | (exfalso; revert hq; decide)
end Go.Proofs.Ytjgaacjfoaohnaa
