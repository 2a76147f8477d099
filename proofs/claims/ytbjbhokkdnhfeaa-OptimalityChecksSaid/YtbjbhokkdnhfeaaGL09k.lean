/- Layer 9: awake; the laws OptimalityMany and OptimalityBounds. -/
import Derived.Test.YtbjbhokkdnhfeaaGL09j
import Derived.Test.YtbjbhokkdnhfeaaGBr2
import Derived.Test.YtbjbhokkdnhfeaaGL09g
import Derived.Test.YtbjbhokkdnhfeaaMC
namespace Go.Proofs.Ytbjbhokkdnhfeaa
set_option linter.unusedVariables false
set_option linter.unusedSimpArgs false
set_option linter.unnecessarySimpa false
set_option linter.unusedSectionVars false
set_option maxRecDepth 10000
open Go.RowKit



def awP : Prog := ⟨[3, 5], [⟨[1, 1], 1, 2⟩]⟩
def awN (r n d : Int) : Nd := ⟨3, 0, 0, 0, r, n, d⟩
theorem awP_fits : Fits awP := ⟨by decide, by decide, by decide⟩
set_option maxHeartbeats 2000000 in
theorem awake_ok : Good Try.prog TT false 13 [] (· = .bool true) := by
  have e1 : boundV awP [-1, -1] (awN 0 5 1) = .tup [.int .i64 3, .bool true] := by rfl
  have e2 : checkF awP ⟨true, [0], 3, [awN 0 3 1]⟩ = 0 := by decide
  have e3 : checkF awP ⟨true, [0], 3, [awN (-1) 0 1]⟩ = 30 := by decide
  refine good_of mixed tabOk Try.func13 rfl rfl Try.ntmps13 Try.results13 rfl rfl ?_
  (conv => whnf); (repeat' (first | (refine arith_i ⟨by omega, by omega⟩ ?_; conv => whnf) | (refine arith_u ⟨by omega, by omega⟩ ?_; conv => whnf) | (refine arith_8 ⟨by omega, by omega⟩ ?_; conv => whnf) | (refine need_i (by first | omega | (simp only [List.length_append, List.length_cons, List.length_nil, List.length_map, List.length_replicate, List.length_modify]; omega)) ?_; conv => whnf) | ((with_reducible refine branch_tt ?_); conv => whnf) | ((with_reducible refine branch_ff ?_); conv => whnf) | (with_reducible refine branch_not ?_) | ((refine call_e ((bound_ok awP [-1, -1] (awN 0 5 1) awP_fits (by decide)).mono fun r h => h.trans e1) ?_); conv => whnf) | ((refine call_e ((check_ok awP ⟨true, [0], 3, [awN 0 3 1]⟩ awP_fits (by decide) (by decide)).mono fun r h => h.trans (int_eq e2)) ?_); conv => whnf) | ((refine call_e ((check_ok awP ⟨true, [0], 3, [awN (-1) 0 1]⟩ awP_fits (by decide) (by decide)).mono fun r h => h.trans (int_eq e3)) ?_); conv => whnf) | ((with_reducible refine slc_e ?_); conv => whnf) | ((with_reducible refine callS_a ?_); conv => whnf) | ((with_reducible refine bld_a ?_); conv => whnf) | ((with_reducible refine own_e ?_); conv => whnf) | ((with_reducible refine branch_d (fun hq => ?_) (fun hq => ?_)) <;> (try (exfalso; omega)) <;> (conv => whnf)) | ((with_reducible refine branch_e (fun hq => ?_) (fun hq => ?_)) <;> (try (exfalso; omega)) <;> (conv => whnf)) | ((with_reducible refine branch_n (fun hq => ?_) (fun hq => ?_)) <;> (try (exfalso; omega)) <;> (conv => whnf)) | ((with_reducible refine branch_i (fun hq => ?_) (fun hq => ?_)) <;> (try (exfalso; omega)) <;> (conv => whnf))))
  all_goals exact ret_p rfl rfl
def nd0 : Nd := ⟨0, 0, 0, 0, 0, 0, 0⟩
theorem many_F (m : Nat) (h : 1 ≤ m) : statesF ⟨[], []⟩ (List.replicate m nd0) = (none, if 8191 < m then 3 else 29) := by
  have hv : validB ⟨[], []⟩ = true := by decide
  rw [statesF, if_neg (by rw [hv]; decide), List.length_replicate]
  by_cases h8 : 8191 < m
  · rw [if_pos h8, if_pos h8]
  · rw [if_neg h8, if_neg h8, if_neg (by omega)]
    obtain ⟨k, rfl⟩ : ∃ k, m = k + 1 := ⟨m - 1, by omega⟩
    have e : stepS 0 0 (k + 1) 0 nd0 ((List.replicate (k + 1) []).set 0 (List.replicate 0 (-1))) ((List.replicate (k + 1) false).set 0 true) = none := by
      rw [step_leaf (by rw [List.getElem?_set_self (by simp)]) (by decide), if_neg (by decide)]
    have e2 : List.replicate (k + 1) nd0 = nd0 :: List.replicate k nd0 := List.replicate_succ
    simp only [e2, List.length_nil]
    rw [go_none e]
theorem repl_N (n : Nat) : List.replicate n [AV.int .i64 0, AV.int .i64 0, AV.int .i64 0, AV.int .i64 0, AV.int .i64 0, AV.int .i64 0, AV.int .i64 0] = (List.replicate n nd0).map encN := by simp [encN, nd0]
theorem snocI {xs : List Int} {x : Int} : xs.map encI ++ [[AV.int .i64 x]] = (xs ++ [x]).map encI := by simp [encI]
end Go.Proofs.Ytbjbhokkdnhfeaa
