/- Layer 9: the laws OptimalityStates, OptimalityProves. -/
import Derived.Test.YtbjbhokkdnhfeaaGL09s
import Derived.Test.YtbjbhokkdnhfeaaGL09k
import Derived.Test.YtbjbhokkdnhfeaaGL09n
import Derived.Test.YtbjbhokkdnhfeaaGL00
namespace Go.Proofs.Ytbjbhokkdnhfeaa
set_option linter.unusedVariables false
set_option linter.unusedSimpArgs false
set_option linter.unnecessarySimpa false
set_option linter.unusedSectionVars false
set_option maxRecDepth 10000
open Go.RowKit
def plGL09t_0 : Plan := (.take 0 (.take 1 (.take 2 (.take 3 (.take 4 (.take 5 (.take 6 (.take 7 (.alt 8 (.take 9 .done) .stop)))))))))
def plGL09t_1 : Plan := (.take 0 (.take 1 (.take 2 (.take 4 (.take 5 (.take 6 (.alt 3 (.alt 7 (.alt 8 (.take 9 .done) .stop) .stop) (.alt 7 (.alt 3 (.alt 8 (.take 9 .done) .stop) .stop) .stop))))))))
def plGL09t_2 : Plan := (.take 0 (.take 1 (.take 2 (.take 4 (.take 5 (.take 6 (.alt 3 (.alt 7 (.altM 8 (.take 9 .done) .stop) .stop) (.alt 7 (.alt 3 (.altM 8 (.take 9 .done) .stop) .stop) .stop))))))))
def stO (P : Prog) (l : List Nd) : List (List Int) := (statesF P l).1.getD []
theorem statesV_eq (P : Prog) (l : List Nd) : statesV P l = .tup [.lst 1 ((stO P l).map encS), .int .i64 (statesF P l).2] := rfl
theorem stO_len {P : Prog} {l : List Nd} : (stO P l).length ≤ 8191 ∧ ∀ st ∈ stO P l, st.length ≤ 12 := by
  unfold stO
  rcases states_err (P := P) (nodes := l) with ⟨o, ho⟩ | ⟨e, -, ho⟩
  · rw [ho]
    obtain ⟨-, hv, h0, h8, hol, hgood⟩ := states_good ho
    refine ⟨by show o.length ≤ 8191; omega, fun st hst => ?_⟩
    obtain ⟨j, hj, rfl⟩ := List.mem_iff_getElem.1 (show st ∈ o from hst)
    have := hgood j _ _ (List.getElem?_eq_getElem hj) (List.getElem?_eq_getElem (show j < l.length by omega))
    have h1 := st_len this.1
    have h2 := (validB_parts hv).1
    omega
  · rw [ho]; simp
set_option maxHeartbeats 2000000 in
theorem states_law (xs : List Int) (hx : xs.length ≤ 9223372036854775807) : Good Try.prog TT false 3 [ints xs] (· = .bool true) := by
  refine good_of mixed tabOk Try.func3 rfl rfl Try.ntmps3 Try.results3 rfl rfl ?_
  (conv => whnf); (repeat' (first | (refine arith_i ⟨by omega, by omega⟩ ?_; conv => whnf) | (refine arith_u ⟨by omega, by omega⟩ ?_; conv => whnf) | (refine arith_8 ⟨by omega, by omega⟩ ?_; conv => whnf) | (refine need_i (by first | omega | (simp only [List.length_append, List.length_cons, List.length_nil, List.length_map, List.length_replicate, List.length_modify]; omega)) ?_; conv => whnf) | ((with_reducible refine branch_tt ?_); conv => whnf) | ((with_reducible refine branch_ff ?_); conv => whnf) | (with_reducible refine branch_not ?_) | ((refine call_e (new_ok xs hx) ?_); conv => whnf) | (((refine call_i (program_any 5 10 (by omega) (by omega)) fun r hr => ?_; obtain ⟨P, rfl, hP, hPc, -⟩ := hr; have LC : (P.costs.map encI).length = P.costs.length := List.length_map ..; have LR : (P.rows.map encRow).length = P.rows.length := List.length_map ..; have hP1 := hP.1; have hP2 := hP.2.1; have hfit : Fits P := ⟨by omega, by omega, fun r hr => by have := hP.2.2 r hr; omega⟩)); conv => whnf) | (((refine call_i (tree_ok P false hfit (by omega) (by omega)) fun r hr => ?_; obtain ⟨l0, S0, rfl, -, -, hl0⟩ := hr)); conv => whnf) | (((refine call_i (bent_ok l0 _ (by omega) (by omega)) fun r hr => ?_; obtain ⟨nodes, rfl, hn1, hn2⟩ := hr; have hso := stO_len (P := P) (l := nodes); have LO : ((stO P nodes).map encS).length = (stO P nodes).length := List.length_map ..)); conv => whnf) | ((refine call_e ((states_ok P nodes hfit (by omega)).mono fun r h => h.trans (statesV_eq P nodes)) ?_); conv => whnf) | ((refine call_e ((rStates_ok P nodes hfit (by omega)).mono fun r h => h.trans (statesV_eq P nodes)) ?_); conv => whnf) | ((with_reducible refine slc_e ?_); conv => whnf) | ((with_reducible refine callS_a ?_); conv => whnf) | ((with_reducible refine bld_a ?_); conv => whnf) | ((with_reducible refine own_e ?_); conv => whnf) | (refine draw_i 10 plGL09t_0 (by decide +kernel) ?_; (conv => whnf); fail_if_success (guard_target =~ False)) | (refine draw_i 10 plGL09t_1 (by decide +kernel) ?_; (conv => whnf); fail_if_success (guard_target =~ False)) | ((with_reducible refine And.intro ?_ ?_) <;> (conv => whnf)) | (with_reducible exact trivial) | ((with_reducible refine branch_d (fun hq => ?_) (fun hq => ?_)) <;> (try (exfalso; omega)) <;> (conv => whnf)) | ((with_reducible refine branch_e (fun hq => ?_) (fun hq => ?_)) <;> (try (exfalso; omega)) <;> (conv => whnf)) | ((with_reducible refine branch_n (fun hq => ?_) (fun hq => ?_)) <;> (try (exfalso; omega)) <;> (conv => whnf)) | ((with_reducible refine branch_i (fun hq => ?_) (fun hq => ?_)) <;> (try (exfalso; omega)) <;> (conv => whnf))))
  refine loop_i (fun i : Nat => i ≤ (stO P nodes).length) (fun i => mkSt [(6, .lst 1 ((stO P nodes).map encS)), (8, .lst 1 ((stO P nodes).map encS)), (10, .int .i64 i)] [(4, [ints P.costs, rowsV P.rows])] true) (fun i => (stO P nodes).length - i) 0 (Nat.zero_le _) (le_mk (by repeat' (first | exact trivial | rfl | apply And.intro)) (by repeat' (first | exact trivial | rfl | apply And.intro)) rfl) ?_
  intro i hi
  (conv => whnf); (repeat' (first | (refine arith_i ⟨by omega, by omega⟩ ?_; conv => whnf) | (refine arith_u ⟨by omega, by omega⟩ ?_; conv => whnf) | (refine arith_8 ⟨by omega, by omega⟩ ?_; conv => whnf) | (refine need_i (by first | omega | (simp only [List.length_append, List.length_cons, List.length_nil, List.length_map, List.length_replicate, List.length_modify]; omega)) ?_; conv => whnf) | ((with_reducible refine branch_tt ?_); conv => whnf) | ((with_reducible refine branch_ff ?_); conv => whnf) | (with_reducible refine branch_not ?_) | (((refine idx_cs (by assumption) ?_)); conv => whnf) | (((refine idx_c (xs := stO P nodes) (by omega) fun st hst => ?_; have hst2 := hso.2 st (List.mem_of_getElem? hst))); conv => whnf) | (((have hI : Good Try.prog TT false 12 [ints st, ints st] (· = .bool true) := (ints_ok st st (by omega) (by omega)).mono (fun r h => by rw [h]; simp); refine call_e hI ?_)); conv => whnf) | ((refine call_e awake_ok ?_); conv => whnf) | ((with_reducible refine slc_e ?_); conv => whnf) | ((with_reducible refine callS_a ?_); conv => whnf) | ((with_reducible refine bld_a ?_); conv => whnf) | ((with_reducible refine own_e ?_); conv => whnf) | (refine draw_i 10 plGL09t_0 (by decide +kernel) ?_; (conv => whnf); fail_if_success (guard_target =~ False)) | (refine draw_i 10 plGL09t_1 (by decide +kernel) ?_; (conv => whnf); fail_if_success (guard_target =~ False)) | ((with_reducible refine And.intro ?_ ?_) <;> (conv => whnf)) | (with_reducible exact trivial) | ((with_reducible refine branch_d (fun hq => ?_) (fun hq => ?_)) <;> (try (exfalso; omega)) <;> (conv => whnf)) | ((with_reducible refine branch_e (fun hq => ?_) (fun hq => ?_)) <;> (try (exfalso; omega)) <;> (conv => whnf)) | ((with_reducible refine branch_n (fun hq => ?_) (fun hq => ?_)) <;> (try (exfalso; omega)) <;> (conv => whnf)) | ((with_reducible refine branch_i (fun hq => ?_) (fun hq => ?_)) <;> (try (exfalso; omega)) <;> (conv => whnf))))
  all_goals first
    | exact ret_p rfl rfl
    | exact ⟨i + 1, by omega, (le_mk (by repeat' (first | exact trivial | rfl | apply And.intro)) (by repeat' (first | exact trivial | rfl | apply And.intro)) rfl), by omega⟩
end Go.Proofs.Ytbjbhokkdnhfeaa
