/- Layer 9: the law OptimalityDivides. -/
import Derived.Test.YtlminbeepaacjaaGL09o


namespace Go.Proofs.Ytlminbeepaacjaa
set_option linter.unusedVariables false
set_option linter.unusedSimpArgs false
set_option linter.unnecessarySimpa false
set_option linter.unusedSectionVars false
set_option maxRecDepth 10000
open Go.RowKit

theorem leaf_in {c t : Nat} {nodes : List Nd} {o : List (List Int)} : ∀ i, 0 ≤ sumN (leafC c t nodes o) i ∧ sumN (leafC c t nodes o) i ≤ i
  | 0 => by simp [sumN]
  | i + 1 => by
    have h1 := leaf_in (c := c) (t := t) (nodes := nodes) (o := o) i
    have h2 : 0 ≤ leafC c t nodes o i ∧ leafC c t nodes o i ≤ 1 := by
      unfold leafC com
      split
      · split <;> omega
      · omega
    simp only [sumN]
    omega
set_option maxHeartbeats 4000000 in
theorem divides_law (xs : List Int) (hx : xs.length ≤ 9223372036854775807) : Good Try.prog TT false 11 [ints xs] (· = .bool true) := by
  refine good_of mixed tabOk Try.func11 rfl rfl Try.ntmps11 Try.results11 rfl rfl ?_
  (conv => whnf); (repeat' (first | (refine arith_i ⟨by omega, by omega⟩ ?_; conv => whnf) | (refine arith_u ⟨by omega, by omega⟩ ?_; conv => whnf) | (refine need_i (by first | omega | (simp only [List.length_append, List.length_cons, List.length_nil, List.length_map, List.length_replicate, List.length_modify]; omega)) ?_; conv => whnf) | ((with_reducible refine branch_tt ?_); conv => whnf) | ((with_reducible refine branch_ff ?_); conv => whnf) | (with_reducible refine branch_not ?_) | ((refine call_e (new_ok xs hx) ?_); conv => whnf) | (((refine call_i (program_any 5 0 (by omega) (by omega)) fun r hr => ?_; obtain ⟨P, rfl, hP, -, hg0⟩ := hr; have hg := hg0 rfl; have hv := progG_valid hg (by omega); have h5 : P.costs.length ≤ 5 := by {have := hg.len; omega}; have LC : (P.costs.map encI).length = P.costs.length := List.length_map ..; have LR : (P.rows.map encRow).length = P.rows.length := List.length_map ..; have hP1 := hP.1; have hP2 := hP.2.1; have hfit : Fits P := ⟨by omega, by omega, fun r hr => by have := hP.2.2 r hr; omega⟩)); conv => whnf) | (((refine call_i (tree_ok P false hfit (by omega) (by omega)) fun r hr => ?_; obtain ⟨l0, S0, rfl, -, -, hl0⟩ := hr)); conv => whnf) | (((refine call_i (bent_ok l0 _ (by omega) (by omega)) fun r hr => ?_; obtain ⟨nodes, rfl, hn1, hn2⟩ := hr; have LN : (nodes.map encN).length = nodes.length := List.length_map ..; rcases states_err (P := P) (nodes := nodes) with ⟨o, ho⟩ | ⟨er, her, ho⟩)); conv => whnf) | ((refine call_e ((states_ok P nodes hfit (by omega)).mono fun r h => h.trans (show statesV P nodes = .tup [.lst 1 (o.map encS), .int .i64 0] by rw [statesV, ho]; rfl)) ?_); conv => whnf) | ((refine call_e ((states_ok P nodes hfit (by omega)).mono fun r h => h.trans (show statesV P nodes = .tup [.lst 1 [], .int .i64 er] by rw [statesV, ho]; rfl)) ?_); conv => whnf) | ((refine call_e awake_ok ?_); conv => whnf) | ((with_reducible refine slc_e ?_); conv => whnf) | (refine draw_i 18 (.take 0 (.take 1 (.take 2 (.take 3 (.take 4 (.take 5 (.take 6 (.take 7 (.take 8 (.take 9 (.take 10 (.take 11 (.take 12 (.take 13 (.take 14 (.alt 15 (.alt 16 (.take 17 .done) .stop) .stop)))))))))))))))) (by decide +kernel) ?_; (conv => whnf); fail_if_success (guard_target =~ False)) | (refine draw_i 18 (.take 0 (.take 1 (.take 2 (.take 3 (.alt 4 (.take 5 (.take 6 (.take 7 (.take 8 (.take 9 (.take 11 (.take 14 (.alt 10 (.alt 12 (.take 13 (.alt 15 (.alt 16 (.take 17 .done) .stop) .stop)) .stop) (.alt 12 (.take 13 (.alt 10 (.alt 15 (.alt 16 (.take 17 .done) .stop) .stop) (.alt 15 (.alt 10 (.alt 16 (.take 17 .done) .stop) .stop) .stop))) .stop))))))))) .stop))))) (by decide +kernel) ?_; (conv => whnf); fail_if_success (guard_target =~ False)) | ((with_reducible refine And.intro ?_ ?_) <;> (conv => whnf)) | (with_reducible exact trivial) | ((with_reducible refine branch_d (fun hq => ?_) (fun hq => ?_)) <;> (try (exfalso; omega)) <;> (conv => whnf)) | ((with_reducible refine branch_e (fun hq => ?_) (fun hq => ?_)) <;> (try (exfalso; omega)) <;> (conv => whnf)) | ((with_reducible refine branch_n (fun hq => ?_) (fun hq => ?_)) <;> (try (exfalso; omega)) <;> (conv => whnf)) | ((with_reducible refine branch_i (fun hq => ?_) (fun hq => ?_)) <;> (try (exfalso; omega)) <;> (conv => whnf))))
  · exfalso
    have hol := (states_good ho).2.2.2.2.1
    rw [List.length_map, List.length_map] at hq
    omega
  · obtain ⟨-, -, h0, h8, hol, hgood⟩ := states_good ho
    have LO : (o.map encS).length = o.length := List.length_map ..
    obtain ⟨N, hN⟩ : ∃ N : Nat, N = 2 ^ P.costs.length := ⟨_, rfl⟩
    have hN32 : N ≤ 32 := by rw [hN]; exact Nat.pow_le_pow_right (by omega) h5
    have eN := shl_pow (by omega) hN
    refine loop_i (fun t : Nat => t ≤ N) (fun t => mkSt [(4, .ptr 4 0), (5, ndsV nodes), (6, .lst 1 (o.map encS)), (8, .int .i64 t)] [(4, [ints P.costs, rowsV P.rows])] true) (fun t => N - t) 0 (Nat.zero_le _) (le_mk (by repeat' (first | exact trivial | rfl | apply And.intro)) (by repeat' (first | exact trivial | rfl | apply And.intro)) rfl) ?_
    intro t ht
    have hsl := sub_len t P.costs.length
    (conv => whnf); (repeat' (first | (refine arith_i ⟨by omega, by omega⟩ ?_; conv => whnf) | (refine arith_u ⟨by omega, by omega⟩ ?_; conv => whnf) | (refine need_i (by first | omega | (simp only [List.length_append, List.length_cons, List.length_nil, List.length_map, List.length_replicate, List.length_modify]; omega)) ?_; conv => whnf) | ((with_reducible refine branch_tt ?_); conv => whnf) | ((with_reducible refine branch_ff ?_); conv => whnf) | (with_reducible refine branch_not ?_) | ((simp only [LC]); conv => whnf) | ((refine call_e awake_ok ?_); conv => whnf) | ((with_reducible refine slc_e ?_); conv => whnf) | (refine draw_i 18 (.take 0 (.take 1 (.take 2 (.take 3 (.take 4 (.take 5 (.take 6 (.take 7 (.take 8 (.take 9 (.take 10 (.take 11 (.take 12 (.take 13 (.take 14 (.alt 15 (.alt 16 (.take 17 .done) .stop) .stop)))))))))))))))) (by decide +kernel) ?_; (conv => whnf); fail_if_success (guard_target =~ False)) | (refine draw_i 18 (.take 0 (.take 1 (.take 2 (.take 3 (.alt 4 (.take 5 (.take 6 (.take 7 (.take 8 (.take 9 (.take 11 (.take 14 (.alt 10 (.alt 12 (.take 13 (.alt 15 (.alt 16 (.take 17 .done) .stop) .stop)) .stop) (.alt 12 (.take 13 (.alt 10 (.alt 15 (.alt 16 (.take 17 .done) .stop) .stop) (.alt 15 (.alt 10 (.alt 16 (.take 17 .done) .stop) .stop) .stop))) .stop))))))))) .stop))))) (by decide +kernel) ?_; (conv => whnf); fail_if_success (guard_target =~ False)) | ((with_reducible refine And.intro ?_ ?_) <;> (conv => whnf)) | (with_reducible exact trivial) | ((with_reducible refine branch_d (fun hq => ?_) (fun hq => ?_)) <;> (try (exfalso; omega)) <;> (conv => whnf)) | ((with_reducible refine branch_e (fun hq => ?_) (fun hq => ?_)) <;> (try (exfalso; omega)) <;> (conv => whnf)) | ((with_reducible refine branch_n (fun hq => ?_) (fun hq => ?_)) <;> (try (exfalso; omega)) <;> (conv => whnf)) | ((with_reducible refine branch_i (fun hq => ?_) (fun hq => ?_)) <;> (try (exfalso; omega)) <;> (conv => whnf))))
    · refine loop_i (fun i : Nat => i ≤ nodes.length) (fun i => mkSt [(4, .ptr 4 0), (5, ndsV nodes), (6, .lst 1 (o.map encS)), (8, .int .i64 t), (9, .int .i64 (sumN (leafC P.costs.length t nodes o) i)), (10, .int .i64 i)] [(4, [ints P.costs, rowsV P.rows])] true) (fun i => nodes.length - i) 0 (Nat.zero_le _) (le_mk (by repeat' (first | exact trivial | rfl | apply And.intro)) (by repeat' (first | exact trivial | rfl | apply And.intro)) rfl) ?_
      intro i hi
      have hle := leaf_in (c := P.costs.length) (t := t) (nodes := nodes) (o := o) i
      (conv => whnf); (repeat' (first | (refine arith_i ⟨by omega, by omega⟩ ?_; conv => whnf) | (refine arith_u ⟨by omega, by omega⟩ ?_; conv => whnf) | (refine need_i (by first | omega | (simp only [List.length_append, List.length_cons, List.length_nil, List.length_map, List.length_replicate, List.length_modify]; omega)) ?_; conv => whnf) | ((with_reducible refine branch_tt ?_); conv => whnf) | ((with_reducible refine branch_ff ?_); conv => whnf) | (with_reducible refine branch_not ?_) | ((first | refine idx_cs (by assumption) ?_ | (refine idx_c (xs := nodes) (by omega) fun y hy => ?_) | (refine idx_c (xs := o) (by omega) fun s hs => ?_; have hsL := st_len (hgood i s y hs hy).1)); conv => whnf) | ((simp only [LC]); conv => whnf) | ((refine call_e (subset_ok P.costs.length t (by omega) (by omega)) ?_); conv => whnf) | ((refine call_e (complete_ok s (subTo t P.costs.length) (by omega) (by omega)) ?_); conv => whnf) | ((with_reducible refine slc_e ?_); conv => whnf) | (refine draw_i 18 (.take 0 (.take 1 (.take 2 (.take 3 (.take 4 (.take 5 (.take 6 (.take 7 (.take 8 (.take 9 (.take 10 (.take 11 (.take 12 (.take 13 (.take 14 (.alt 15 (.alt 16 (.take 17 .done) .stop) .stop)))))))))))))))) (by decide +kernel) ?_; (conv => whnf); fail_if_success (guard_target =~ False)) | (refine draw_i 18 (.take 0 (.take 1 (.take 2 (.take 3 (.alt 4 (.take 5 (.take 6 (.take 7 (.take 8 (.take 9 (.take 11 (.take 14 (.alt 10 (.alt 12 (.take 13 (.alt 15 (.alt 16 (.take 17 .done) .stop) .stop)) .stop) (.alt 12 (.take 13 (.alt 10 (.alt 15 (.alt 16 (.take 17 .done) .stop) .stop) (.alt 15 (.alt 10 (.alt 16 (.take 17 .done) .stop) .stop) .stop))) .stop))))))))) .stop))))) (by decide +kernel) ?_; (conv => whnf); fail_if_success (guard_target =~ False)) | ((with_reducible refine And.intro ?_ ?_) <;> (conv => whnf)) | (with_reducible exact trivial) | ((with_reducible refine branch_d (fun hq => ?_) (fun hq => ?_)) <;> (try (exfalso; omega)) <;> (conv => whnf)) | ((with_reducible refine branch_e (fun hq => ?_) (fun hq => ?_)) <;> (try (exfalso; omega)) <;> (conv => whnf)) | ((with_reducible refine branch_n (fun hq => ?_) (fun hq => ?_)) <;> (try (exfalso; omega)) <;> (conv => whnf)) | ((with_reducible refine branch_i (fun hq => ?_) (fun hq => ?_)) <;> (try (exfalso; omega)) <;> (conv => whnf))))
      all_goals first
        | (have e : sumN (leafC P.costs.length t nodes o) (i + 1) = sumN (leafC P.costs.length t nodes o) i + 1 := by
             have hkk : y.kind ≠ 1 := by assumption
             rw [sumN, leafC, getD_some hy, if_pos hkk, getD_some hs, com, if_pos (by assumption)]
           exact ⟨i + 1, by omega, by rw [e]; exact (le_mk (by repeat' (first | exact trivial | rfl | apply And.intro)) (by repeat' (first | exact trivial | rfl | apply And.intro)) rfl), by omega⟩)
        | (have e : sumN (leafC P.costs.length t nodes o) (i + 1) = sumN (leafC P.costs.length t nodes o) i := by
             have hkk : y.kind ≠ 1 := by assumption
             rw [sumN, leafC, getD_some hy, if_pos hkk, getD_some hs, com, if_neg (by simp [hq])]; omega
           exact ⟨i + 1, by omega, by rw [e]; exact (le_mk (by repeat' (first | exact trivial | rfl | apply And.intro)) (by repeat' (first | exact trivial | rfl | apply And.intro)) rfl), by omega⟩)
        | (have e : sumN (leafC P.costs.length t nodes o) (i + 1) = sumN (leafC P.costs.length t nodes o) i := by
             have hkk : y.kind = 1 := by assumption
             rw [sumN, leafC, getD_some hy, if_neg (by simp [hkk])]; omega
           exact ⟨i + 1, by omega, by rw [e]; exact (le_mk (by repeat' (first | exact trivial | rfl | apply And.intro)) (by repeat' (first | exact trivial | rfl | apply And.intro)) rfl), by omega⟩)
        | (exfalso
           have hc1 := states_count ho t
           rw [show nodes.length = i by omega] at hc1
           exact hq hc1)
        | (have ht' : t < N := by simp only [eN] at *; omega
           exact ⟨t + 1, by omega, (le_mk (by repeat' (first | exact trivial | rfl | apply And.intro)) (by repeat' (first | exact trivial | rfl | apply And.intro)) rfl), by omega⟩)
    · exact ret_p rfl rfl
  · exact ret_p rfl rfl
end Go.Proofs.Ytlminbeepaacjaa
