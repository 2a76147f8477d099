/- Layer 10: the law AssemblyNext. -/
import Derived.Test.YtlenfbnoobpdaaaGL10l
namespace Go.Proofs.Ytlenfbnoobpdaaa
set_option linter.unusedVariables false
set_option linter.unusedSimpArgs false
set_option linter.unnecessarySimpa false
set_option linter.unusedSectionVars false
set_option maxRecDepth 10000
open Go.RowKit
set_option maxHeartbeats 4000000 in
theorem next_law (xs : List Int) (hx : xs.length ≤ 9223372036854775807) : Good Try.prog TT false 12 [ints xs] (· = .bool true) := by
  refine good_of mixed tabOk Try.func12 rfl rfl Try.ntmps12 Try.results12 rfl rfl ?_
  (conv => whnf); (repeat' (first | (refine arith_i ⟨by omega, by omega⟩ ?_; conv => whnf) | (refine arith_u ⟨by omega, by omega⟩ ?_; conv => whnf) | (refine need_i (by first | omega | (simp only [List.length_append, List.length_cons, List.length_nil, List.length_map, List.length_replicate, List.length_modify]; omega)) ?_; conv => whnf) | ((with_reducible refine branch_tt ?_); conv => whnf) | ((with_reducible refine branch_ff ?_); conv => whnf) | (with_reducible refine branch_not ?_) | ((refine call_e (new_ok xs hx) ?_); conv => whnf) | (((refine call_i (program_any 4 0 (by omega) (by omega)) fun r hr => ?_; obtain ⟨P, rfl, hP, -, hg0⟩ := hr; have hg := hg0 rfl; have hv := progG_valid hg (by omega); have h4 : P.costs.length ≤ 4 := by {have := hg.len; omega}; have hP1 := hP.1; have hP2 := hP.2.1; have hfit : Fits P := fits_of hv; have hav : allV P = .tup [.lst 1 ((allF P).map encS), .int .i64 0] := if_pos hv; have hcnt := all_count4 (P := P) h4; have LA : ((allF P).map encS).length = (allF P).length := List.length_map ..)); conv => whnf) | ((refine call_e ((all_ok P hfit).mono fun r h => h.trans hav) ?_); conv => whnf) | ((with_reducible refine slc_e ?_); conv => whnf) | ((with_reducible refine callS_a ?_); conv => whnf) | ((with_reducible refine own_e ?_); conv => whnf) | (refine draw_i 7 (.take 0 (.take 1 (.take 2 (.take 3 (.take 4 (.take 5 (.alt 6 .done .stop))))))) (by decide +kernel) ?_; (conv => whnf); fail_if_success (guard_target =~ False)) | (refine draw_i 7 (.take 0 (.take 1 (.take 2 (.take 4 (.take 5 (.alt 3 (.alt 6 .done .stop) .stop)))))) (by decide +kernel) ?_; (conv => whnf); fail_if_success (guard_target =~ False)) | (refine draw_i 7 (.take 0 (.take 1 (.take 2 (.take 4 (.alt 3 (.alt 5 (.alt 6 .done .stop) .stop) (.alt 5 (.alt 3 (.alt 6 .done .stop) .stop) .stop)))))) (by decide +kernel) ?_; (conv => whnf); fail_if_success (guard_target =~ False)) | (refine draw_i 9 (.take 0 (.take 1 (.take 2 (.take 5 (.take 6 (.alt 3 (.alt 4 (.take 7 (.take 8 .done)) .stop) .stop)))))) (by decide +kernel) ?_; (conv => whnf); fail_if_success (guard_target =~ False)) | (refine draw_i 9 (.take 0 (.take 1 (.take 5 (.alt 2 (.alt 3 (.alt 4 (.take 7 (.alt 6 (.take 8 .done) .stop)) (.alt 6 (.alt 4 (.take 7 (.take 8 .done)) .stop) .stop)) (.alt 6 (.alt 3 (.alt 4 (.take 7 (.take 8 .done)) .stop) .stop) .stop)) (.alt 6 (.alt 2 (.alt 3 (.alt 4 (.take 7 (.take 8 .done)) .stop) .stop) .stop) .stop))))) (by decide +kernel) ?_; (conv => whnf); fail_if_success (guard_target =~ False)) | ((with_reducible refine And.intro ?_ ?_) <;> (conv => whnf)) | (with_reducible exact trivial) | ((with_reducible refine branch_d (fun hq => ?_) (fun hq => ?_)) <;> (try (exfalso; omega)) <;> (conv => whnf)) | ((with_reducible refine branch_e (fun hq => ?_) (fun hq => ?_)) <;> (try (exfalso; omega)) <;> (conv => whnf)) | ((with_reducible refine branch_n (fun hq => ?_) (fun hq => ?_)) <;> (try (exfalso; omega)) <;> (conv => whnf)) | ((with_reducible refine branch_i (fun hq => ?_) (fun hq => ?_)) <;> (try (exfalso; omega)) <;> (conv => whnf))))
  refine loop_i2 (fun (E : List (List Int)) (cost : Int) => NextInv P E cost ∧ E.length ≤ (allF P).length) (fun E cost => mkSt [(3, .ptr 3 0), (4, .lst 1 ((allF P).map encS)), (6, .ptr 6 0), (7, .own 900 22 1 (E.map encS)), (8, .int .i64 cost), (9, .int .i64 E.length)] [(3, [ints P.costs, rowsV P.rows]), (6, [ints P.costs, rowsV (repsP P E).rows])] true) (fun E _ => (allF P).length + 1 - E.length) [] 0 ⟨NextInv.start hv, by simp⟩ (by rw [show (repsP P []).rows = P.rows from List.append_nil _]; exact Le.trans (le_adopt 7 900 22 1 rfl) (le_mk (by repeat' (first | exact trivial | rfl | apply And.intro)) (by repeat' (first | exact trivial | rfl | apply And.intro)) rfl)) ?_
  rintro E cost ⟨hI, hEl⟩
  have hn12 : P.costs.length ≤ 12 := by omega
  have hEa : ∀ c ∈ E, Asc 0 P.costs.length c := fun c hc => (all_mem.1 (hI.sub c hc)).1
  have hvQ : validB (repsP P E) = true := reps_valid hv hEa (by omega)
  have hfQ : Fits (repsP P E) := fits_of hvQ
  have hbl := best_len hvQ
  have hfd := hI.found hn12
  have hnx := fun h => hI.next hv h
  have hsv : solveV (repsP P E) = .tup [.agg [.bool (bestF (repsP P E)).1, ints (bestF (repsP P E)).2.2, .int .i64 (bestF (repsP P E)).2.1, ndsV (certF (repsP P E) (bestF (repsP P E)).1 (bestF (repsP P E)).2.1)], .int .i64 0] := if_pos hvQ
  generalize certF (repsP P E) (bestF (repsP P E)).1 (bestF (repsP P E)).2.1 = nds at hsv
  obtain ⟨⟨fd, cst, ch⟩, hbf⟩ : ∃ t, bestF (repsP P E) = t := ⟨_, rfl⟩
  rw [hbf] at hsv hbl hfd hnx
  simp only at hsv hbl hfd hnx
  have LE : (E.map encS).length = E.length := List.length_map ..
  have LQ : (repsP P E).rows.length = P.rows.length + E.length := by simp [repsP]
  (conv => whnf); (repeat' (first | (refine arith_i ⟨by omega, by omega⟩ ?_; conv => whnf) | (refine arith_u ⟨by omega, by omega⟩ ?_; conv => whnf) | (refine need_i (by first | omega | (simp only [List.length_append, List.length_cons, List.length_nil, List.length_map, List.length_replicate, List.length_modify]; omega)) ?_; conv => whnf) | ((with_reducible refine branch_tt ?_); conv => whnf) | ((with_reducible refine branch_ff ?_); conv => whnf) | (with_reducible refine branch_not ?_) | ((refine call_e awake_ok ?_); conv => whnf) | ((refine call_e ((solve_ok (repsP P E) hfQ).mono fun r h => h.trans hsv) ?_); conv => whnf) | ((refine call_e (meets_ok P ch hfit (by omega)) ?_); conv => whnf) | ((with_reducible refine slc_e ?_); conv => whnf) | ((with_reducible refine callS_a ?_); conv => whnf) | ((with_reducible refine own_e ?_); conv => whnf) | (refine draw_i 7 (.take 0 (.take 1 (.take 2 (.take 3 (.take 4 (.take 5 (.alt 6 .done .stop))))))) (by decide +kernel) ?_; (conv => whnf); fail_if_success (guard_target =~ False)) | (refine draw_i 7 (.take 0 (.take 1 (.take 2 (.take 4 (.take 5 (.alt 3 (.alt 6 .done .stop) .stop)))))) (by decide +kernel) ?_; (conv => whnf); fail_if_success (guard_target =~ False)) | (refine draw_i 7 (.take 0 (.take 1 (.take 2 (.take 4 (.alt 3 (.alt 5 (.alt 6 .done .stop) .stop) (.alt 5 (.alt 3 (.alt 6 .done .stop) .stop) .stop)))))) (by decide +kernel) ?_; (conv => whnf); fail_if_success (guard_target =~ False)) | (refine draw_i 9 (.take 0 (.take 1 (.take 2 (.take 5 (.take 6 (.alt 3 (.alt 4 (.take 7 (.take 8 .done)) .stop) .stop)))))) (by decide +kernel) ?_; (conv => whnf); fail_if_success (guard_target =~ False)) | (refine draw_i 9 (.take 0 (.take 1 (.take 5 (.alt 2 (.alt 3 (.alt 4 (.take 7 (.alt 6 (.take 8 .done) .stop)) (.alt 6 (.alt 4 (.take 7 (.take 8 .done)) .stop) .stop)) (.alt 6 (.alt 3 (.alt 4 (.take 7 (.take 8 .done)) .stop) .stop) .stop)) (.alt 6 (.alt 2 (.alt 3 (.alt 4 (.take 7 (.take 8 .done)) .stop) .stop) .stop) .stop))))) (by decide +kernel) ?_; (conv => whnf); fail_if_success (guard_target =~ False)) | ((with_reducible refine And.intro ?_ ?_) <;> (conv => whnf)) | (with_reducible exact trivial) | ((with_reducible refine branch_d (fun hq => ?_) (fun hq => ?_)) <;> (try (exfalso; omega)) <;> (conv => whnf)) | ((with_reducible refine branch_e (fun hq => ?_) (fun hq => ?_)) <;> (try (exfalso; omega)) <;> (conv => whnf)) | ((with_reducible refine branch_n (fun hq => ?_) (fun hq => ?_)) <;> (try (exfalso; omega)) <;> (conv => whnf)) | ((with_reducible refine branch_i (fun hq => ?_) (fun hq => ?_)) <;> (try (exfalso; omega)) <;> (conv => whnf))))
  rotate_left 1
  · have hf : fd = true := by assumption
    subst hf
    have hN := hnx rfl
    have hcm := all_meets hv hN.2.1
    refine loop_i (fun j : Nat => j ≤ E.length) (fun j => mkSt [(3, .ptr 3 0), (4, .lst 1 ((allF P).map encS)), (6, .ptr 6 0), (7, .own 900 22 1 (E.map encS)), (9, .int .i64 E.length), (10, .ptr 10 0), (12, .int .i64 j)] [(3, [ints P.costs, rowsV P.rows]), (6, [ints P.costs, rowsV (repsP P E).rows]), (10, [.bool true, ints ch, .int .i64 cst, ndsV nds])] true) (fun j => E.length - j) 0 (Nat.zero_le _) (le_mk (by repeat' (first | exact trivial | rfl | apply And.intro)) (by repeat' (first | exact trivial | rfl | apply And.intro)) rfl) ?_
    intro j hj
    have e0 : repE (repsP P E) true ch = 0 := by
      rw [repE, if_neg (by rw [hvQ]; decide), if_neg (by rw [show choiceB ch (repsP P E).costs.length = true from asc_choice hcm.2.2]; simp), if_neg (by omega)]
    have hrv : repV (repsP P E) true ch = .tup [progV (repsP P (E ++ [ch])), .int .i64 0] := by rw [repV, e0, if_pos rfl, reps_snoc]
    (conv => whnf); (repeat' (first | (refine arith_i ⟨by omega, by omega⟩ ?_; conv => whnf) | (refine arith_u ⟨by omega, by omega⟩ ?_; conv => whnf) | (refine need_i (by first | omega | (simp only [List.length_append, List.length_cons, List.length_nil, List.length_map, List.length_replicate, List.length_modify]; omega)) ?_; conv => whnf) | ((with_reducible refine branch_tt ?_); conv => whnf) | ((with_reducible refine branch_ff ?_); conv => whnf) | (with_reducible refine branch_not ?_) | ((refine idx_cs (by assumption) ?_); conv => whnf) | (((refine idx_c (xs := E) (by omega) fun c hc => ?_; have hcl := asc_len (hEa c (List.mem_of_getElem? hc)))); conv => whnf) | ((refine call_e (ints_ok c ch (by omega) (by omega)) ?_); conv => whnf) | ((refine call_e ((repeatP_ok (repsP P E) ⟨true, ch, cst, nds⟩ hfQ (by show ch.length ≤ _; omega)).mono fun r h => h.trans hrv) ?_); conv => whnf) | ((with_reducible refine slc_e ?_); conv => whnf) | ((with_reducible refine callS_a ?_); conv => whnf) | ((with_reducible refine own_e ?_); conv => whnf) | (refine draw_i 7 (.take 0 (.take 1 (.take 2 (.take 4 (.take 5 (.alt 3 (.alt 6 .done .stop) .stop)))))) (by decide +kernel) ?_; (conv => whnf); fail_if_success (guard_target =~ False)) | (refine draw_i 7 (.take 0 (.take 1 (.take 2 (.take 4 (.alt 3 (.alt 5 (.alt 6 .done .stop) .stop) (.alt 5 (.alt 3 (.alt 6 .done .stop) .stop) .stop)))))) (by decide +kernel) ?_; (conv => whnf); fail_if_success (guard_target =~ False)) | (refine draw_i 7 (.take 0 (.take 1 (.take 2 (.take 3 (.take 4 (.take 5 (.alt 6 .done .stop))))))) (by decide +kernel) ?_; (conv => whnf); fail_if_success (guard_target =~ False)) | (refine draw_i 9 (.take 0 (.take 1 (.take 2 (.take 5 (.take 6 (.alt 3 (.alt 4 (.take 7 (.take 8 .done)) .stop) .stop)))))) (by decide +kernel) ?_; (conv => whnf); fail_if_success (guard_target =~ False)) | (refine draw_i 9 (.take 0 (.take 1 (.take 5 (.alt 2 (.alt 3 (.alt 4 (.take 7 (.alt 6 (.take 8 .done) .stop)) (.alt 6 (.alt 4 (.take 7 (.take 8 .done)) .stop) .stop)) (.alt 6 (.alt 3 (.alt 4 (.take 7 (.take 8 .done)) .stop) .stop) .stop)) (.alt 6 (.alt 2 (.alt 3 (.alt 4 (.take 7 (.take 8 .done)) .stop) .stop) .stop) .stop))))) (by decide +kernel) ?_; (conv => whnf); fail_if_success (guard_target =~ False)) | ((with_reducible refine And.intro ?_ ?_) <;> (conv => whnf)) | (with_reducible exact trivial) | ((with_reducible refine branch_d (fun hq => ?_) (fun hq => ?_)) <;> (try (exfalso; omega)) <;> (conv => whnf)) | ((with_reducible refine branch_e (fun hq => ?_) (fun hq => ?_)) <;> (try (exfalso; omega)) <;> (conv => whnf)) | ((with_reducible refine branch_n (fun hq => ?_) (fun hq => ?_)) <;> (try (exfalso; omega)) <;> (conv => whnf)) | ((with_reducible refine branch_i (fun hq => ?_) (fun hq => ?_)) <;> (try (exfalso; omega)) <;> (conv => whnf))))
    all_goals first
      | (exfalso
         exact hN.2.2.1 (by rw [← hq]; exact List.mem_of_getElem? hc))
      | exact ⟨j + 1, by omega, (le_mk (by repeat' (first | exact trivial | rfl | apply And.intro)) (by repeat' (first | exact trivial | rfl | apply And.intro)) rfl), by omega⟩
      | (refine ⟨E ++ [ch], cst, ⟨hN.2.2.2, ?_⟩, ?_, ?_⟩
         · have := hfd.1 rfl
           simp; omega
         · rw [show (E ++ [ch]).map encS = E.map encS ++ [[ints ch]] by rw [List.map_append]; rfl, show (((E ++ [ch]).length : Nat) : Int) = (E.length : Int) + 1 by simp]
           exact (le_mk (by repeat' (first | exact trivial | rfl | apply And.intro)) (by repeat' (first | exact trivial | rfl | apply And.intro)) rfl)
         · have := hfd.1 rfl
           simp; omega)
      | trace_state
  all_goals first
    | exact ret_p rfl rfl
    | (exfalso
       have hf : fd = true := by assumption
       have hN := hnx hf
       first
         | omega
         | (have := (all_meets hv hN.2.1).1
            rw [hq] at this; cases this))
    | (exfalso
       have hf : fd = false := by assumption
       have : ¬ E.length < (allF P).length := fun h => by rw [hfd.2 h] at hf; cases hf
       omega)
    | (exfalso
       cases fd with
       | true => have := hfd.1 rfl; simp at hq; omega
       | false =>
         have : ¬ E.length < (allF P).length := fun h => by have := hfd.2 h; cases this
         simp at hq; omega)
    | trace_state
end Go.Proofs.Ytlenfbnoobpdaaa
