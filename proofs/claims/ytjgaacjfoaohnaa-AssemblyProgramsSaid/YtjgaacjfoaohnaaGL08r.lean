/- Layer 8, the reference by the interpreter: Valid, State, Choice, Sum, Meets, Cost, Span, Blocked, Dead. -/
import Derived.Test.YtjgaacjfoaohnaaGA
import Derived.Test.YtjgaacjfoaohnaaGL09a
namespace Go.Proofs.Ytjgaacjfoaohnaa
set_option linter.unusedVariables false
set_option linter.unusedSimpArgs false
set_option linter.unnecessarySimpa false
set_option linter.unusedSectionVars false
set_option maxRecDepth 10000
open Go.RowKit
theorem validB_row' {P : Prog} {k : Nat} {y : Row} (h : P.rows[k]? = some y) (hb : rowB P.costs.length y = false) : validB P = false := by
  have : P.rows.all (rowB P.costs.length) = false := by
    rw [List.all_eq_false]
    exact ⟨y, List.mem_of_getElem? h, by simp [hb]⟩
  simp [validB, this]
theorem inside_ok (x m : Int) : Good Try.prog TT false 70 [.int .i64 x, .int .i64 m] (· = .bool (insideB x m)) := by
  refine good_of mixed tabOk Try.func70 rfl rfl Try.ntmps70 Try.results70 rfl rfl ?_
  (conv => whnf); (repeat' (first | (refine arith_i ⟨by omega, by omega⟩ ?_; conv => whnf) | (refine arith_u ⟨by omega, by omega⟩ ?_; conv => whnf) | (refine arith_8 ⟨by omega, by omega⟩ ?_; conv => whnf) | (refine need_i (by first | omega | (simp only [List.length_append, List.length_cons, List.length_nil, List.length_map, List.length_replicate, List.length_modify]; omega)) ?_; conv => whnf) | ((with_reducible refine branch_tt ?_); conv => whnf) | ((with_reducible refine branch_ff ?_); conv => whnf) | (with_reducible refine branch_not ?_) | ((with_reducible refine slc_e ?_); conv => whnf) | ((with_reducible refine callS_a ?_); conv => whnf) | ((with_reducible refine own_e ?_); conv => whnf) | ((with_reducible refine branch_d (fun hq => ?_) (fun hq => ?_)) <;> (try (exfalso; omega)) <;> (conv => whnf)) | ((with_reducible refine branch_e (fun hq => ?_) (fun hq => ?_)) <;> (try (exfalso; omega)) <;> (conv => whnf)) | ((with_reducible refine branch_n (fun hq => ?_) (fun hq => ?_)) <;> (try (exfalso; omega)) <;> (conv => whnf)) | ((with_reducible refine branch_i (fun hq => ?_) (fun hq => ?_)) <;> (try (exfalso; omega)) <;> (conv => whnf))))
  all_goals exact ret_p rfl (bool_eq (by simp [insideB]; try omega))
theorem costs_in {P : Prog} (h : validB P = true) : ∀ i, i < P.costs.length → -10000 ≤ nth P.costs i ∧ nth P.costs i ≤ 10000 := fun i hi => by
  have := costB_iff.1 (AllTo.of_all (validB_parts h).2.2.1 i hi)
  omega
theorem cost_ret (P : Prog) (ch : List Int) {x : Int} {b : Bool} (h1 : x = costF P ch) (h2 : b = costOk P ch) : aret (.tup [.int .i64 x, .bool b]) (· = .tup [.int .i64 (costF P ch), .bool (costOk P ch)]) := by
  subst h1 h2
  exact ret_t (rs := [_, _]) ⟨(rc_p rfl).g, (rc_p rfl).g, trivial⟩ rfl
theorem cost_ok (P : Prog) (ch : List Int) (hP : Fits P) (hl : ch.length ≤ 1000000) : Good Try.prog TT false 58 [progV P, ints ch] (· = .tup [.int .i64 (costF P ch), .bool (costOk P ch)]) := by
  have L : (P.costs.map encI).length = P.costs.length := List.length_map ..
  have LR : (P.rows.map encRow).length = P.rows.length := List.length_map ..
  have hP1 := hP.1
  have hP2 := hP.2.1
  refine good_of mixed tabOk Try.func58 rfl rfl Try.ntmps58 Try.results58 rfl rfl ?_
  (conv => whnf); (repeat' (first | (refine arith_i ⟨by omega, by omega⟩ ?_; conv => whnf) | (refine arith_u ⟨by omega, by omega⟩ ?_; conv => whnf) | (refine arith_8 ⟨by omega, by omega⟩ ?_; conv => whnf) | (refine need_i (by first | omega | (simp only [List.length_append, List.length_cons, List.length_nil, List.length_map, List.length_replicate, List.length_modify]; omega)) ?_; conv => whnf) | ((with_reducible refine branch_tt ?_); conv => whnf) | ((with_reducible refine branch_ff ?_); conv => whnf) | (with_reducible refine branch_not ?_) | ((refine call_e (valid_ok P hP.1 hP.2.1 hP.2.2) ?_); conv => whnf) | ((rw [L]; refine call_e (isChoice_ok ch P.costs.length hl hP1) ?_); conv => whnf) | ((refine call_e (sumOver_ok _ _ hl (costs_in (by assumption)) (fun i hi => choice_in (by assumption) hi)) ?_); conv => whnf) | ((with_reducible refine slc_e ?_); conv => whnf) | ((with_reducible refine callS_a ?_); conv => whnf) | ((with_reducible refine own_e ?_); conv => whnf) | ((with_reducible refine branch_d (fun hq => ?_) (fun hq => ?_)) <;> (try (exfalso; omega)) <;> (conv => whnf)) | ((with_reducible refine branch_e (fun hq => ?_) (fun hq => ?_)) <;> (try (exfalso; omega)) <;> (conv => whnf)) | ((with_reducible refine branch_n (fun hq => ?_) (fun hq => ?_)) <;> (try (exfalso; omega)) <;> (conv => whnf)) | ((with_reducible refine branch_i (fun hq => ?_) (fun hq => ?_)) <;> (try (exfalso; omega)) <;> (conv => whnf))))
  all_goals exact cost_ret P ch (by simp [costF, costOk, *]) (by simp [costOk, *])
theorem span_ret (cs st : List Int) {x y : Int} {b : Bool} (h1 : x = (spanF cs st).1) (h2 : y = (spanF cs st).2) (h3 : b = spanB cs st) : aret (.tup [.int .i64 x, .int .i64 y, .bool b]) (· = spanV cs st) := by
  subst h1 h2 h3
  exact ret_t (rs := [_, _, _]) ⟨(rc_p rfl).g, (rc_p rfl).g, (rc_p rfl).g, trivial⟩ rfl
theorem stO_state {st : List Int} {n : Nat} (hn : n ≤ 12) : stOB st n = isStateB st n := by
  have e : st.all tri9 = st.all triB := rfl
  rw [Bool.eq_iff_iff]
  simp [stOB, isStateB, e, hn]
  omega
end Go.Proofs.Ytjgaacjfoaohnaa
