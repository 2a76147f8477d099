/- Layer 10: the laws AssemblyRepeats and AssemblyFull. -/
import Derived.Test.YtjgaacjfoaohnaaGL10g
namespace Go.Proofs.Ytjgaacjfoaohnaa
set_option linter.unusedVariables false
set_option linter.unusedSimpArgs false
set_option linter.unnecessarySimpa false
set_option linter.unusedSectionVars false
set_option maxRecDepth 10000
open Go.RowKit
def plGL10h_0 : Plan := (.take 0 (.take 1 (.take 2 (.take 3 (.take 4 (.take 5 (.take 6 (.take 7 (.take 8 (.take 9 (.take 10 (.take 11 (.take 12 (.take 13 (.take 14 (.take 15 (.take 16 (.take 17 (.take 18 (.take 19 (.take 20 (.take 21 (.take 22 (.take 23 (.take 24 (.take 25 (.take 26 (.take 27 (.take 28 (.take 29 (.take 30 (.take 31 (.take 32 (.take 33 (.take 34 (.take 35 (.take 36 (.take 37 (.take 38 (.take 39 (.take 40 (.alt 41 (.take 42 (.take 43 .done)) .stop))))))))))))))))))))))))))))))))))))))))))
set_option maxHeartbeats 4000000 in
theorem sameP_ok (P : Prog) (hP : Fits P) : Good Try.prog TT false 13 [progV P, progV P] (· = .bool true) := by
  have hp2 := hP.2.1
  have LR : (P.rows.map encRow).length = P.rows.length := List.length_map ..
  refine good_of mixed tabOk Try.func13 rfl rfl Try.ntmps13 Try.results13 rfl rfl ?_
  (conv => whnf); (repeat' (first | (refine arith_i ⟨by omega, by omega⟩ ?_; conv => whnf) | (refine arith_u ⟨by omega, by omega⟩ ?_; conv => whnf) | (refine arith_8 ⟨by omega, by omega⟩ ?_; conv => whnf) | (refine need_i (by first | omega | (simp only [List.length_append, List.length_cons, List.length_nil, List.length_map, List.length_replicate, List.length_modify]; omega)) ?_; conv => whnf) | ((with_reducible refine branch_tt ?_); conv => whnf) | ((with_reducible refine branch_ff ?_); conv => whnf) | (with_reducible refine branch_not ?_) | ((refine call_e (ints_ok P.costs P.costs hP.1 hP.1) ?_); conv => whnf) | ((with_reducible refine slc_e ?_); conv => whnf) | ((with_reducible refine callS_a ?_); conv => whnf) | ((with_reducible refine own_e ?_); conv => whnf) | (refine draw_i 44 plGL10h_0 (by decide +kernel) ?_; (conv => whnf); fail_if_success (guard_target =~ False)) | ((with_reducible refine And.intro ?_ ?_) <;> (conv => whnf)) | (with_reducible exact trivial) | ((with_reducible refine branch_d (fun hq => ?_) (fun hq => ?_)) <;> (try (exfalso; omega)) <;> (conv => whnf)) | ((with_reducible refine branch_e (fun hq => ?_) (fun hq => ?_)) <;> (try (exfalso; omega)) <;> (conv => whnf)) | ((with_reducible refine branch_n (fun hq => ?_) (fun hq => ?_)) <;> (try (exfalso; omega)) <;> (conv => whnf)) | ((with_reducible refine branch_i (fun hq => ?_) (fun hq => ?_)) <;> (try (exfalso; omega)) <;> (conv => whnf))))
  · refine loop_i (fun k : Nat => k ≤ P.rows.length) (fun k => mkSt [(2, .ptr 2 0), (3, .ptr 3 0), (5, .int .i64 k)] [(2, [ints P.costs, rowsV P.rows]), (3, [ints P.costs, rowsV P.rows])] false) (fun k => P.rows.length - k) 0 (Nat.zero_le _) (le_mk (by repeat' (first | exact trivial | rfl | apply And.intro)) (by repeat' (first | exact trivial | rfl | apply And.intro)) rfl) ?_
    intro k hk
    (conv => whnf); (repeat' (first | (refine arith_i ⟨by omega, by omega⟩ ?_; conv => whnf) | (refine arith_u ⟨by omega, by omega⟩ ?_; conv => whnf) | (refine arith_8 ⟨by omega, by omega⟩ ?_; conv => whnf) | (refine need_i (by first | omega | (simp only [List.length_append, List.length_cons, List.length_nil, List.length_map, List.length_replicate, List.length_modify]; omega)) ?_; conv => whnf) | ((with_reducible refine branch_tt ?_); conv => whnf) | ((with_reducible refine branch_ff ?_); conv => whnf) | (with_reducible refine branch_not ?_) | ((refine idx_cs (by assumption) ?_); conv => whnf) | (((refine idx_c (xs := P.rows) (by omega) fun r hrr => ?_; have hrl := hP.2.2 r (List.mem_of_getElem? hrr))); conv => whnf) | ((refine call_e (ints_ok r.coefs r.coefs hrl hrl) ?_); conv => whnf) | ((with_reducible refine slc_e ?_); conv => whnf) | ((with_reducible refine callS_a ?_); conv => whnf) | ((with_reducible refine own_e ?_); conv => whnf) | (refine draw_i 44 plGL10h_0 (by decide +kernel) ?_; (conv => whnf); fail_if_success (guard_target =~ False)) | ((with_reducible refine And.intro ?_ ?_) <;> (conv => whnf)) | (with_reducible exact trivial) | ((with_reducible refine branch_d (fun hq => ?_) (fun hq => ?_)) <;> (try (exfalso; omega)) <;> (conv => whnf)) | ((with_reducible refine branch_e (fun hq => ?_) (fun hq => ?_)) <;> (try (exfalso; omega)) <;> (conv => whnf)) | ((with_reducible refine branch_n (fun hq => ?_) (fun hq => ?_)) <;> (try (exfalso; omega)) <;> (conv => whnf)) | ((with_reducible refine branch_i (fun hq => ?_) (fun hq => ?_)) <;> (try (exfalso; omega)) <;> (conv => whnf))))
    all_goals first
      | exact ⟨k + 1, by omega, (le_mk (by repeat' (first | exact trivial | rfl | apply And.intro)) (by repeat' (first | exact trivial | rfl | apply And.intro)) rfl), by omega⟩
      | exact ret_p rfl rfl
      | (exfalso; exact hq rfl)
  · exact absurd rfl hq
/-! Full -/
def fullP (k : Nat) : Prog := ⟨[2, 1], List.replicate k ⟨[1, 1], 1, 1⟩⟩
theorem full_best : ∀ k, 57 ≤ k → k ≤ 60 → validB (fullP k) = true ∧ bestF (fullP k) = (true, 1, [1]) := by
  intro k h1 h2
  have : k = 57 ∨ k = 58 ∨ k = 59 ∨ k = 60 := by omega
  rcases this with rfl | rfl | rfl | rfl <;> decide +kernel
theorem full_not : ∀ k, 60 < k → validB (fullP k) = false := fun k h => validB_big (.inr (by simp [fullP]; omega))
theorem full_rep : ∀ k, 57 ≤ k → k ≤ 60 → repE (fullP k) true [1] = if k = 60 then 3 else 0 := by
  intro k h1 h2
  have : k = 57 ∨ k = 58 ∨ k = 59 ∨ k = 60 := by omega
  rcases this with rfl | rfl | rfl | rfl <;> decide +kernel
theorem fs_not {k : Nat} (h : 60 < k) : solveV (fullP k) = .tup [.agg [.bool false, ints [], .int .i64 0, .lst 7 []], .int .i64 1] := by rw [solveV, if_neg (by rw [full_not k h]; decide)]
theorem fs_yes {k : Nat} (h1 : 57 ≤ k) (h2 : k ≤ 60) : solveV (fullP k) = .tup [.agg [.bool true, ints [1], .int .i64 1, ndsV (certF (fullP k) true 1)], .int .i64 0] := by rw [solveV, if_pos (full_best k h1 h2).1, (full_best k h1 h2).2]
theorem fr_not {k : Nat} (h : 60 < k) : repV (fullP k) true [1] = .tup [progV ⟨[], []⟩, .int .i64 1] := by
  have : repE (fullP k) true [1] = 1 := by rw [repE, if_pos (full_not k h)]
  rw [repV, this]; rfl
theorem fr_60 : repV (fullP 60) true [1] = .tup [progV ⟨[], []⟩, .int .i64 3] := by
  have : repE (fullP 60) true [1] = 3 := full_rep 60 (by omega) (by omega)
  rw [repV, this]; rfl
theorem fr_lt {k : Nat} (h1 : 57 ≤ k) (h2 : k < 60) : repV (fullP k) true [1] = .tup [progV (repP (fullP k) [1]), .int .i64 0] := by
  have : repE (fullP k) true [1] = 0 := by rw [full_rep k h1 (by omega), if_neg (by omega)]
  rw [repV, this]; rfl
theorem snocR {j : Nat} {r : Row} : (List.replicate (j + 1) r).map encRow = (List.replicate j r).map encRow ++ [encRow r] := by rw [List.replicate_succ', List.map_append]; rfl
end Go.Proofs.Ytjgaacjfoaohnaa
