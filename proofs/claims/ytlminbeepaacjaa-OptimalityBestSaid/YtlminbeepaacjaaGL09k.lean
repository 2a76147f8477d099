/- Layer 9: awake; the laws OptimalityMany and OptimalityBounds. -/
import Derived.Test.YtlminbeepaacjaaGL09j
import Derived.Test.YtlminbeepaacjaaGBr2
import Derived.Test.YtlminbeepaacjaaGL09g
import Derived.Test.YtlminbeepaacjaaFw20
namespace Go.Proofs.Ytlminbeepaacjaa
set_option linter.unusedVariables false
set_option linter.unusedSimpArgs false
set_option linter.unnecessarySimpa false
set_option linter.unusedSectionVars false
set_option maxRecDepth 10000
open Go.RowKit



def awP : Prog := ⟨[3, 5], [⟨[1, 1], 1, 2⟩]⟩
def awN (r n d : Int) : Nd := ⟨3, 0, 0, 0, r, n, d⟩
theorem awP_fits : Fits awP := ⟨by decide, by decide, by decide⟩
set_option maxHeartbeats 2000000 in
theorem awake_ok : Good Try.prog TT false 20 [] (· = .bool true) := by
  have e1 : boundV awP [-1, -1] (awN 0 5 1) = .tup [.int .i64 3, .bool true] := by rfl
  have e2 : checkF awP ⟨true, [0], 3, [awN 0 3 1]⟩ = 0 := by decide
  have e3 : checkF awP ⟨true, [0], 3, [awN (-1) 0 1]⟩ = 30 := by decide
  refine good_of mixed tabOk Try.func20 rfl rfl Try.ntmps20 Try.results20 rfl rfl ?_
  (conv => whnf); (repeat' (first | (refine arith_i ⟨by omega, by omega⟩ ?_; conv => whnf) | (refine arith_u ⟨by omega, by omega⟩ ?_; conv => whnf) | (refine need_i (by first | omega | (simp only [List.length_append, List.length_cons, List.length_nil, List.length_map, List.length_replicate, List.length_modify]; omega)) ?_; conv => whnf) | ((with_reducible refine branch_tt ?_); conv => whnf) | ((with_reducible refine branch_ff ?_); conv => whnf) | (with_reducible refine branch_not ?_) | ((refine call_e ((bound_ok awP [-1, -1] (awN 0 5 1) awP_fits (by decide)).mono fun r h => h.trans e1) ?_); conv => whnf) | ((refine call_e ((check_ok awP ⟨true, [0], 3, [awN 0 3 1]⟩ awP_fits (by decide) (by decide)).mono fun r h => h.trans (int_eq e2)) ?_); conv => whnf) | ((refine call_e ((check_ok awP ⟨true, [0], 3, [awN (-1) 0 1]⟩ awP_fits (by decide) (by decide)).mono fun r h => h.trans (int_eq e3)) ?_); conv => whnf) | ((with_reducible refine slc_e ?_); conv => whnf) | ((with_reducible refine branch_d (fun hq => ?_) (fun hq => ?_)) <;> (try (exfalso; omega)) <;> (conv => whnf)) | ((with_reducible refine branch_e (fun hq => ?_) (fun hq => ?_)) <;> (try (exfalso; omega)) <;> (conv => whnf)) | ((with_reducible refine branch_n (fun hq => ?_) (fun hq => ?_)) <;> (try (exfalso; omega)) <;> (conv => whnf)) | ((with_reducible refine branch_i (fun hq => ?_) (fun hq => ?_)) <;> (try (exfalso; omega)) <;> (conv => whnf))))
  all_goals exact ret_p rfl rfl
def nd0 : Nd := ⟨0, 0, 0, 0, 0, 0, 0⟩
theorem many_F (m : Nat) (h : 1 ≤ m) : statesF ⟨[], []⟩ (List.replicate m nd0) = (none, if 8191 < m then 3 else 29) := by
  have hv : validB ⟨[], []⟩ = true := by decide
  rw [statesF, if_neg (by rw [hv]; decide), List.length_replicate]
  by_cases h8 : 8191 < m
  · rw [if_pos h8, if_pos h8]
  · rw [if_neg h8, if_neg h8, if_neg (by omega)]
    obtain ⟨k, rfl⟩ : ∃ k, m = k + 1 := ⟨m - 1, by omega⟩
    have e : stepS 0 0 (k + 1) 0 nd0 ((List.replicate (k + 1) []).set 0 (List.replicate 0 (-1))) ((List.replicate (k + 1) false).set 0 true) = none := by
      rw [step_leaf (by rw [List.getElem?_set_self (by simp)]) (by decide), if_neg (by decide)]
    have e2 : List.replicate (k + 1) nd0 = nd0 :: List.replicate k nd0 := List.replicate_succ
    simp only [e2, List.length_nil]
    rw [go_none e]
theorem repl_N (n : Nat) : List.replicate n [AV.int .i64 0, AV.int .i64 0, AV.int .i64 0, AV.int .i64 0, AV.int .i64 0, AV.int .i64 0, AV.int .i64 0] = (List.replicate n nd0).map encN := by simp [encN, nd0]
set_option maxHeartbeats 2000000 in
theorem many_law (n : Int) : Good Try.prog TT false 7 [.int .i64 n] (· = .bool true) := by
  have hcut := cutG_in n 5 (by omega)
  have LR : (List.replicate (8189 + cutG n 5).toNat [AV.int .i64 0, AV.int .i64 0, AV.int .i64 0, AV.int .i64 0, AV.int .i64 0, AV.int .i64 0, AV.int .i64 0]).length = (8189 + cutG n 5).toNat := by simp
  have hS : Good Try.prog TT false 22 [progV ⟨[], []⟩, .lst 7 (List.replicate (8189 + cutG n 5).toNat [AV.int .i64 0, AV.int .i64 0, AV.int .i64 0, AV.int .i64 0, AV.int .i64 0, AV.int .i64 0, AV.int .i64 0])] (· = .tup [.lst 1 [], .int .i64 (if 8191 < (8189 + cutG n 5).toNat then 3 else 29)]) := by
    rw [repl_N]
    refine (states_ok ⟨[], []⟩ (List.replicate (8189 + cutG n 5).toNat nd0) ⟨by decide, by decide, by decide⟩ (by simp; omega)).mono fun r h => h.trans ?_
    rw [statesV, many_F _ (by omega)]; rfl
  refine good_of mixed tabOk Try.func7 rfl rfl Try.ntmps7 Try.results7 rfl rfl ?_
  (conv => whnf); (repeat' (first | (refine arith_i ⟨by omega, by omega⟩ ?_; conv => whnf) | (refine arith_u ⟨by omega, by omega⟩ ?_; conv => whnf) | (refine need_i (by first | omega | (simp only [List.length_append, List.length_cons, List.length_nil, List.length_map, List.length_replicate, List.length_modify]; omega)) ?_; conv => whnf) | ((with_reducible refine branch_tt ?_); conv => whnf) | ((with_reducible refine branch_ff ?_); conv => whnf) | (with_reducible refine branch_not ?_) | ((refine call_e (cut_ok n 5 (by omega)) ?_); conv => whnf) | ((refine call_e awake_ok ?_); conv => whnf) | (((refine call_w (args' := [progV ⟨[], []⟩, _]) ⟨.inr ⟨_, _, rfl, rfl, .inr ⟨rfl, 1, rfl⟩, .inr ⟨rfl, 3, rfl⟩, trivial⟩, .inl (.inl rfl), trivial⟩ hS fun r hr => ?_; subst hr)); conv => whnf) | ((with_reducible refine slc_e ?_); conv => whnf) | ((with_reducible refine branch_d (fun hq => ?_) (fun hq => ?_)) <;> (try (exfalso; omega)) <;> (conv => whnf)) | ((with_reducible refine branch_e (fun hq => ?_) (fun hq => ?_)) <;> (try (exfalso; omega)) <;> (conv => whnf)) | ((with_reducible refine branch_n (fun hq => ?_) (fun hq => ?_)) <;> (try (exfalso; omega)) <;> (conv => whnf)) | ((with_reducible refine branch_i (fun hq => ?_) (fun hq => ?_)) <;> (try (exfalso; omega)) <;> (conv => whnf))))
  all_goals first
    | exact ret_p rfl rfl
    | (exfalso; rw [if_pos (by omega)] at hq; omega)
    | (exfalso; rw [if_neg (by omega)] at hq; omega)
theorem snocI {xs : List Int} {x : Int} : xs.map encI ++ [[AV.int .i64 x]] = (xs ++ [x]).map encI := by simp [encI]
set_option maxHeartbeats 2000000 in
theorem bounds_law (xs : List Int) (num den : Int) (hx : xs.length ≤ 9223372036854775807) : Good Try.prog TT false 3 [ints xs, .int .i64 num, .int .i64 den] (· = .bool true) := by
  refine good_of mixed tabOk Try.func3 rfl rfl Try.ntmps3 Try.results3 rfl rfl ?_
  (conv => whnf); (repeat' (first | (refine arith_i ⟨by omega, by omega⟩ ?_; conv => whnf) | (refine arith_u ⟨by omega, by omega⟩ ?_; conv => whnf) | (refine need_i (by first | omega | (simp only [List.length_append, List.length_cons, List.length_nil, List.length_map, List.length_replicate, List.length_modify]; omega)) ?_; conv => whnf) | ((with_reducible refine branch_tt ?_); conv => whnf) | ((with_reducible refine branch_ff ?_); conv => whnf) | (with_reducible refine branch_not ?_) | ((refine call_e (new_ok xs hx) ?_); conv => whnf) | (((refine call_i (program_any 5 8 (by omega) (by omega)) fun r hr => ?_; obtain ⟨P, rfl, hP, -, -⟩ := hr; have LC : (P.costs.map encI).length = P.costs.length := List.length_map ..; have LR : (P.rows.map encRow).length = P.rows.length := List.length_map ..; have hP1 := hP.1; have hP2 := hP.2.1; have hfit : Fits P := ⟨by omega, by omega, fun r hr => by have := hP.2.2 r hr; omega⟩)); conv => whnf) | (((rw [LC]; refine call_i (state_ok P.costs.length (by omega)) fun r hr => ?_; obtain ⟨st, rfl, hl, hst⟩ := hr; have LS : (st.map encI).length = st.length := List.length_map ..; clear hst)); conv => whnf) | (((refine call_i (one_ok _ (by omega)) fun r hr => ?_; obtain ⟨b1, rfl⟩ := hr)); conv => whnf) | (((refine call_i (range_ok _ _ (by omega) (by omega)) fun r hr => ?_; obtain ⟨x, rfl, -, hx⟩ := hr)); conv => whnf) | (((refine call_i (bent_ok [⟨3, 0, 0, 0, _, _, _⟩] 5 (by simp) (by omega)) fun r hr => ?_; obtain ⟨l', rfl, hl1, hl2⟩ := hr; have LL : (l'.map encN).length = l'.length := List.length_map ..; rw [List.length_singleton] at hl2)); conv => whnf) | (((refine idx_m (by omega) (by omega) fun y hy => ?_)); conv => whnf) | ((refine call_e awake_ok ?_); conv => whnf) | (((refine call_e (bound_ok P st y hfit (by first | omega | (rw [List.length_append, List.length_singleton]; omega))) ?_)); conv => whnf) | (((refine call_e (bound_ok P st ⟨y.kind, y.var, y.zero, y.one, y.row, num, den⟩ hfit (by first | omega | (rw [List.length_append, List.length_singleton]; omega))) ?_)); conv => whnf) | (((refine call_e (rBound_ok P st y hfit (by first | omega | (rw [List.length_append, List.length_singleton]; omega))) ?_)); conv => whnf) | (((refine call_e (rBound_ok P st ⟨y.kind, y.var, y.zero, y.one, y.row, num, den⟩ hfit (by first | omega | (rw [List.length_append, List.length_singleton]; omega))) ?_)); conv => whnf) | ((((try rw [snocI]); refine call_e (bound_ok P (st ++ [_]) y hfit (by first | omega | (rw [List.length_append, List.length_singleton]; omega))) ?_)); conv => whnf) | ((((try rw [snocI]); refine call_e (bound_ok P (st ++ [_]) ⟨y.kind, y.var, y.zero, y.one, y.row, num, den⟩ hfit (by first | omega | (rw [List.length_append, List.length_singleton]; omega))) ?_)); conv => whnf) | ((((try rw [snocI]); refine call_e (rBound_ok P (st ++ [_]) y hfit (by first | omega | (rw [List.length_append, List.length_singleton]; omega))) ?_)); conv => whnf) | ((((try rw [snocI]); refine call_e (rBound_ok P (st ++ [_]) ⟨y.kind, y.var, y.zero, y.one, y.row, num, den⟩ hfit (by first | omega | (rw [List.length_append, List.length_singleton]; omega))) ?_)); conv => whnf) | ((with_reducible refine slc_e ?_); conv => whnf) | ((with_reducible refine branch_d (fun hq => ?_) (fun hq => ?_)) <;> (try (exfalso; omega)) <;> (conv => whnf)) | ((with_reducible refine branch_e (fun hq => ?_) (fun hq => ?_)) <;> (try (exfalso; omega)) <;> (conv => whnf)) | ((with_reducible refine branch_n (fun hq => ?_) (fun hq => ?_)) <;> (try (exfalso; omega)) <;> (conv => whnf)) | ((with_reducible refine branch_i (fun hq => ?_) (fun hq => ?_)) <;> (try (exfalso; omega)) <;> (conv => whnf))))
  all_goals first
    | exact ret_p rfl rfl
    | (exfalso; simp_all; done)
end Go.Proofs.Ytlminbeepaacjaa
