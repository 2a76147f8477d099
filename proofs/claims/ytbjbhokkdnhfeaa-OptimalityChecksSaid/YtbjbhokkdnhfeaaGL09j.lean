/- Layer 9: Check. -/
import Derived.Test.YtbjbhokkdnhfeaaGL09i
import Derived.Test.YtbjbhokkdnhfeaaGL09g
import Derived.Test.YtbjbhokkdnhfeaaMC
namespace Go.Proofs.Ytbjbhokkdnhfeaa
set_option linter.unusedVariables false
set_option linter.unusedSimpArgs false
set_option linter.unnecessarySimpa false
set_option linter.unusedSectionVars false
set_option maxRecDepth 10000
open Go.RowKit


structure Pln where
  found : Bool
  chosen : List Int
  cost : Int
  nodes : List Nd
def planV (p : Pln) : AV := .agg [.bool p.found, ints p.chosen, .int .i64 p.cost, ndsV p.nodes]
/-- The error of a plan. -/
def checkF (P : Prog) (p : Pln) : Int :=
  if validB P = false then 1
  else if p.found = true ∧ (meetsB P p.chosen = false ∨ costF P p.chosen ≠ p.cost) then 10
  else if p.found = false ∧ (p.chosen.length ≠ 0 ∨ p.cost ≠ 0) then 10
  else if (provedF P p.nodes).2.2 ≠ 0 then (provedF P p.nodes).2.2
  else if (p.found = true ∧ ((provedF P p.nodes).2.1 = false ∨ (provedF P p.nodes).1 < p.cost)) ∨ (p.found = false ∧ (provedF P p.nodes).2.1 = true) then 30
  else 0
set_option maxHeartbeats 2000000 in
theorem check_ok (P : Prog) (p : Pln) (hP : Fits P) (hl : p.nodes.length ≤ 1000000) (hc : p.chosen.length ≤ 1000000) : Good Try.prog TT false 20 [progV P, planV p] (· = .int .i64 (checkF P p)) := by
  have L : (P.costs.map encI).length = P.costs.length := List.length_map ..
  have LR : (P.rows.map encRow).length = P.rows.length := List.length_map ..
  have LN : (p.nodes.map encN).length = p.nodes.length := List.length_map ..
  have LC : (p.chosen.map encI).length = p.chosen.length := List.length_map ..
  refine good_of mixed tabOk Try.func20 rfl rfl Try.ntmps20 Try.results20 rfl rfl ?_
  (conv => whnf); (repeat' (first | (refine arith_i ⟨by omega, by omega⟩ ?_; conv => whnf) | (refine arith_u ⟨by omega, by omega⟩ ?_; conv => whnf) | (refine arith_8 ⟨by omega, by omega⟩ ?_; conv => whnf) | (refine need_i (by first | omega | (simp only [List.length_append, List.length_cons, List.length_nil, List.length_map, List.length_replicate, List.length_modify]; omega)) ?_; conv => whnf) | ((with_reducible refine branch_tt ?_); conv => whnf) | ((with_reducible refine branch_ff ?_); conv => whnf) | (with_reducible refine branch_not ?_) | ((refine call_e (valid_ok P hP.1 hP.2.1 hP.2.2) ?_); conv => whnf) | ((refine call_e (cost_ok P p.chosen hP hc) ?_); conv => whnf) | ((refine call_e (meets_ok P p.chosen hP hc) ?_); conv => whnf) | ((refine call_e (proved_ok P p.nodes hP hl) ?_); conv => whnf) | ((with_reducible refine slc_e ?_); conv => whnf) | ((with_reducible refine callS_a ?_); conv => whnf) | ((with_reducible refine bld_a ?_); conv => whnf) | ((with_reducible refine own_e ?_); conv => whnf) | ((with_reducible refine branch_d (fun hq => ?_) (fun hq => ?_)) <;> (try (exfalso; omega)) <;> (conv => whnf)) | ((with_reducible refine branch_e (fun hq => ?_) (fun hq => ?_)) <;> (try (exfalso; omega)) <;> (conv => whnf)) | ((with_reducible refine branch_n (fun hq => ?_) (fun hq => ?_)) <;> (try (exfalso; omega)) <;> (conv => whnf)) | ((with_reducible refine branch_i (fun hq => ?_) (fun hq => ?_)) <;> (try (exfalso; omega)) <;> (conv => whnf))))
  all_goals first
    | (exfalso; simp_all; done)
    | (refine ret_p rfl (int_eq ?_); simp [checkF, *]; done)
    | (have e1 : p.chosen.length ≠ 0 := by omega
       refine ret_p rfl (int_eq ?_); simp only [checkF]; simp_all; done)
    | (have e1 : p.chosen.length = 0 := by omega
       have e2 : p.chosen = [] := List.eq_nil_of_length_eq_zero e1
       refine ret_p rfl (int_eq ?_); simp only [checkF]; simp_all; done)
    | (refine ret_p rfl (int_eq ?_); simp only [checkF]; simp_all; done)
end Go.Proofs.Ytbjbhokkdnhfeaa
