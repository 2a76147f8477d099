/- Layer 8: comparing rows; the example of the chapter; the law BlueprintMany. -/
import Derived.Test.YtpglaaiecgjmmaaGL08q
import Derived.Test.YtpglaaiecgjmmaaGL08b2
namespace Go.Proofs.Ytpglaaiecgjmmaa
set_option linter.unusedVariables false
set_option linter.unusedSimpArgs false
set_option linter.unnecessarySimpa false
set_option linter.unusedSectionVars false
set_option maxRecDepth 10000
open Go.RowKit
set_option maxHeartbeats 2000000 in
theorem sameRows_ok (rs : List Row) (h1 : rs.length ≤ 1000) (h2 : ∀ r ∈ rs, r.coefs.length ≤ 1000) : Good Try.prog TT false 35 [rowsV rs, rowsV rs] (· = .bool true) := by
  have LR : (rs.map encRow).length = rs.length := List.length_map ..
  refine good_of mixed tabOk Try.func35 rfl rfl Try.ntmps35 Try.results35 rfl rfl ?_
  (conv => whnf); (repeat' (first | (refine arith_i ⟨by omega, by omega⟩ ?_; conv => whnf) | (refine arith_u ⟨by omega, by omega⟩ ?_; conv => whnf) | (refine arith_8 ⟨by omega, by omega⟩ ?_; conv => whnf) | (refine need_i (by first | omega | (simp only [List.length_append, List.length_cons, List.length_nil, List.length_map, List.length_replicate, List.length_modify]; omega)) ?_; conv => whnf) | ((with_reducible refine branch_tt ?_); conv => whnf) | ((with_reducible refine branch_ff ?_); conv => whnf) | (with_reducible refine branch_not ?_) | ((with_reducible refine slc_e ?_); conv => whnf) | ((with_reducible refine callS_a ?_); conv => whnf) | ((with_reducible refine own_e ?_); conv => whnf) | (refine draw_i 38 (.take 0 (.take 1 (.take 2 (.take 3 (.take 4 (.take 5 (.take 6 (.take 7 (.take 8 (.take 9 (.take 10 (.take 11 (.take 12 (.take 13 (.take 14 (.take 15 (.take 16 (.take 17 (.take 18 (.take 19 (.take 20 (.take 21 (.take 22 (.take 23 (.take 24 (.take 25 (.take 26 (.take 27 (.take 28 (.take 29 (.take 30 (.take 31 (.take 32 (.take 33 (.take 34 (.alt 35 (.take 36 (.take 37 .done)) .stop)))))))))))))))))))))))))))))))))))) (by decide +kernel) ?_; (conv => whnf); fail_if_success (guard_target =~ False)) | (refine draw_i 38 (.take 0 (.take 1 (.take 2 (.take 3 (.take 5 (.take 6 (.take 7 (.take 8 (.alt 4 (.alt 9 (.take 10 (.take 11 (.take 12 (.take 13 (.take 14 (.take 15 (.take 17 (.take 18 (.take 19 (.take 20 (.alt 16 (.alt 21 (.take 22 (.take 23 (.take 24 (.take 25 (.take 26 (.take 27 (.take 28 (.take 30 (.take 31 (.take 32 (.take 33 (.alt 29 (.alt 34 (.alt 35 (.take 36 (.take 37 .done)) .stop) .stop) (.alt 34 (.alt 29 (.alt 35 (.take 36 (.take 37 .done)) .stop) .stop) .stop))))))))))))) .stop) (.alt 21 (.alt 16 (.take 22 (.take 23 (.take 24 (.take 25 (.take 26 (.take 27 (.take 28 (.take 30 (.take 31 (.take 32 (.take 33 (.alt 29 (.alt 34 (.alt 35 (.take 36 (.take 37 .done)) .stop) .stop) (.alt 34 (.alt 29 (.alt 35 (.take 36 (.take 37 .done)) .stop) .stop) .stop))))))))))))) .stop) .stop)))))))))))) .stop) (.alt 9 (.alt 4 (.take 10 (.take 11 (.take 12 (.take 13 (.take 14 (.take 15 (.take 17 (.take 18 (.take 19 (.take 20 (.alt 16 (.alt 21 (.take 22 (.take 23 (.take 24 (.take 25 (.take 26 (.take 27 (.take 28 (.take 30 (.take 31 (.take 32 (.take 33 (.alt 29 (.alt 34 (.alt 35 (.take 36 (.take 37 .done)) .stop) .stop) (.alt 34 (.alt 29 (.alt 35 (.take 36 (.take 37 .done)) .stop) .stop) .stop))))))))))))) .stop) (.alt 21 (.alt 16 (.take 22 (.take 23 (.take 24 (.take 25 (.take 26 (.take 27 (.take 28 (.take 30 (.take 31 (.take 32 (.take 33 (.alt 29 (.alt 34 (.alt 35 (.take 36 (.take 37 .done)) .stop) .stop) (.alt 34 (.alt 29 (.alt 35 (.take 36 (.take 37 .done)) .stop) .stop) .stop))))))))))))) .stop) .stop)))))))))))) .stop) .stop)))))))))) (by decide +kernel) ?_; (conv => whnf); fail_if_success (guard_target =~ False)) | ((with_reducible refine And.intro ?_ ?_) <;> (conv => whnf)) | (with_reducible exact trivial) | ((with_reducible refine branch_d (fun hq => ?_) (fun hq => ?_)) <;> (try (exfalso; omega)) <;> (conv => whnf)) | ((with_reducible refine branch_e (fun hq => ?_) (fun hq => ?_)) <;> (try (exfalso; omega)) <;> (conv => whnf)) | ((with_reducible refine branch_n (fun hq => ?_) (fun hq => ?_)) <;> (try (exfalso; omega)) <;> (conv => whnf)) | ((with_reducible refine branch_i (fun hq => ?_) (fun hq => ?_)) <;> (try (exfalso; omega)) <;> (conv => whnf))))
  refine loop_i (fun k : Nat => k ≤ rs.length) (fun k => mkSt [(0, rowsV rs), (1, rowsV rs), (5, .int .i64 k)] [] false) (fun k => rs.length - k) 0 (Nat.zero_le _) (le_mk (by repeat' (first | exact trivial | rfl | apply And.intro)) (by repeat' (first | exact trivial | rfl | apply And.intro)) rfl) ?_
  intro k hk
  (conv => whnf); (repeat' (first | (refine arith_i ⟨by omega, by omega⟩ ?_; conv => whnf) | (refine arith_u ⟨by omega, by omega⟩ ?_; conv => whnf) | (refine arith_8 ⟨by omega, by omega⟩ ?_; conv => whnf) | (refine need_i (by first | omega | (simp only [List.length_append, List.length_cons, List.length_nil, List.length_map, List.length_replicate, List.length_modify]; omega)) ?_; conv => whnf) | ((with_reducible refine branch_tt ?_); conv => whnf) | ((with_reducible refine branch_ff ?_); conv => whnf) | (with_reducible refine branch_not ?_) | ((refine idx_cs (by assumption) ?_); conv => whnf) | (((refine idx_c (xs := rs) (by omega) fun r hr => ?_; have hrc := h2 r (List.mem_of_getElem? hr))); conv => whnf) | (((refine call_e (ints_ok r.coefs r.coefs (by omega) (by omega)) ?_; rw [decide_eq_true rfl])); conv => whnf) | ((with_reducible refine slc_e ?_); conv => whnf) | ((with_reducible refine callS_a ?_); conv => whnf) | ((with_reducible refine own_e ?_); conv => whnf) | (refine draw_i 38 (.take 0 (.take 1 (.take 2 (.take 3 (.take 4 (.take 5 (.take 6 (.take 7 (.take 8 (.take 9 (.take 10 (.take 11 (.take 12 (.take 13 (.take 14 (.take 15 (.take 16 (.take 17 (.take 18 (.take 19 (.take 20 (.take 21 (.take 22 (.take 23 (.take 24 (.take 25 (.take 26 (.take 27 (.take 28 (.take 29 (.take 30 (.take 31 (.take 32 (.take 33 (.take 34 (.alt 35 (.take 36 (.take 37 .done)) .stop)))))))))))))))))))))))))))))))))))) (by decide +kernel) ?_; (conv => whnf); fail_if_success (guard_target =~ False)) | (refine draw_i 38 (.take 0 (.take 1 (.take 2 (.take 3 (.take 5 (.take 6 (.take 7 (.take 8 (.alt 4 (.alt 9 (.take 10 (.take 11 (.take 12 (.take 13 (.take 14 (.take 15 (.take 17 (.take 18 (.take 19 (.take 20 (.alt 16 (.alt 21 (.take 22 (.take 23 (.take 24 (.take 25 (.take 26 (.take 27 (.take 28 (.take 30 (.take 31 (.take 32 (.take 33 (.alt 29 (.alt 34 (.alt 35 (.take 36 (.take 37 .done)) .stop) .stop) (.alt 34 (.alt 29 (.alt 35 (.take 36 (.take 37 .done)) .stop) .stop) .stop))))))))))))) .stop) (.alt 21 (.alt 16 (.take 22 (.take 23 (.take 24 (.take 25 (.take 26 (.take 27 (.take 28 (.take 30 (.take 31 (.take 32 (.take 33 (.alt 29 (.alt 34 (.alt 35 (.take 36 (.take 37 .done)) .stop) .stop) (.alt 34 (.alt 29 (.alt 35 (.take 36 (.take 37 .done)) .stop) .stop) .stop))))))))))))) .stop) .stop)))))))))))) .stop) (.alt 9 (.alt 4 (.take 10 (.take 11 (.take 12 (.take 13 (.take 14 (.take 15 (.take 17 (.take 18 (.take 19 (.take 20 (.alt 16 (.alt 21 (.take 22 (.take 23 (.take 24 (.take 25 (.take 26 (.take 27 (.take 28 (.take 30 (.take 31 (.take 32 (.take 33 (.alt 29 (.alt 34 (.alt 35 (.take 36 (.take 37 .done)) .stop) .stop) (.alt 34 (.alt 29 (.alt 35 (.take 36 (.take 37 .done)) .stop) .stop) .stop))))))))))))) .stop) (.alt 21 (.alt 16 (.take 22 (.take 23 (.take 24 (.take 25 (.take 26 (.take 27 (.take 28 (.take 30 (.take 31 (.take 32 (.take 33 (.alt 29 (.alt 34 (.alt 35 (.take 36 (.take 37 .done)) .stop) .stop) (.alt 34 (.alt 29 (.alt 35 (.take 36 (.take 37 .done)) .stop) .stop) .stop))))))))))))) .stop) .stop)))))))))))) .stop) .stop)))))))))) (by decide +kernel) ?_; (conv => whnf); fail_if_success (guard_target =~ False)) | ((with_reducible refine And.intro ?_ ?_) <;> (conv => whnf)) | (with_reducible exact trivial) | ((with_reducible refine branch_d (fun hq => ?_) (fun hq => ?_)) <;> (try (exfalso; omega)) <;> (conv => whnf)) | ((with_reducible refine branch_e (fun hq => ?_) (fun hq => ?_)) <;> (try (exfalso; omega)) <;> (conv => whnf)) | ((with_reducible refine branch_n (fun hq => ?_) (fun hq => ?_)) <;> (try (exfalso; omega)) <;> (conv => whnf)) | ((with_reducible refine branch_i (fun hq => ?_) (fun hq => ?_)) <;> (try (exfalso; omega)) <;> (conv => whnf))))
  all_goals first
    | exact ⟨k + 1, by omega, (le_mk (by repeat' (first | exact trivial | rfl | apply And.intro)) (by repeat' (first | exact trivial | rfl | apply And.intro)) rfl), by omega⟩
    | exact ret_p rfl rfl
    | (exfalso; simp_all; done)
    | trace_state
def awakeP8 : Prog := ⟨[1, 1, 1], [⟨[1, 1, 1], 1, 2⟩, ⟨[4, 5, 6], 9, 10⟩, ⟨[0, 1, 1], 0, 1⟩]⟩
theorem awakeP8_fits : Fits awakeP8 := ⟨by decide, by decide, by decide⟩
theorem awake8_ok : Good Try.prog TT false 36 [] (· = .bool true) := by
  refine good_of mixed tabOk Try.func36 rfl rfl Try.ntmps36 Try.results36 rfl rfl ?_
  (conv => whnf); (repeat (first | (refine arith_i ⟨by omega, by omega⟩ ?_; conv => whnf) | (refine need_i (by first | omega | (simp only [List.length_append, List.length_cons, List.length_nil]; omega)) ?_; conv => whnf) | ((with_reducible refine branch_tt ?_); conv => whnf) | ((with_reducible refine branch_ff ?_); conv => whnf) | (with_reducible refine branch_not ?_) | ((with_reducible refine slc_e ?_); conv => whnf) | ((with_reducible refine callS_a ?_); conv => whnf) | ((with_reducible refine own_e ?_); conv => whnf)))
  have e1 : spanV [4, 5, 6] [0, -1, -1] = .tup [.int .i64 0, .int .i64 11, .bool true] := rfl
  refine idx_i (by omega) rfl ?_
  (conv => whnf); (repeat (first | (refine arith_i ⟨by omega, by omega⟩ ?_; conv => whnf) | (refine need_i (by first | omega | (simp only [List.length_append, List.length_cons, List.length_nil]; omega)) ?_; conv => whnf) | ((with_reducible refine branch_tt ?_); conv => whnf) | ((with_reducible refine branch_ff ?_); conv => whnf) | (with_reducible refine branch_not ?_) | ((with_reducible refine slc_e ?_); conv => whnf) | ((with_reducible refine callS_a ?_); conv => whnf) | ((with_reducible refine own_e ?_); conv => whnf)))
  refine call_e ((span_ok [4, 5, 6] [0, -1, -1] 9 10 (by decide) (by decide)).mono fun r h => h.trans e1) ?_
  (conv => whnf); (repeat (first | (refine arith_i ⟨by omega, by omega⟩ ?_; conv => whnf) | (refine need_i (by first | omega | (simp only [List.length_append, List.length_cons, List.length_nil]; omega)) ?_; conv => whnf) | ((with_reducible refine branch_tt ?_); conv => whnf) | ((with_reducible refine branch_ff ?_); conv => whnf) | (with_reducible refine branch_not ?_) | ((with_reducible refine slc_e ?_); conv => whnf) | ((with_reducible refine callS_a ?_); conv => whnf) | ((with_reducible refine own_e ?_); conv => whnf)))
  have e2 : meetsB awakeP8 [0, 1] = true := by decide
  have e3 : meetsB awakeP8 [1, 2] = false := by decide
  have e4 : deadF awakeP8 [0, -1, -1] = -1 := by decide
  refine call_e ((meets_ok awakeP8 [0, 1] awakeP8_fits (by decide)).mono fun r h => h.trans (bool_eq e2)) ?_
  (conv => whnf); (repeat (first | (refine arith_i ⟨by omega, by omega⟩ ?_; conv => whnf) | (refine need_i (by first | omega | (simp only [List.length_append, List.length_cons, List.length_nil]; omega)) ?_; conv => whnf) | ((with_reducible refine branch_tt ?_); conv => whnf) | ((with_reducible refine branch_ff ?_); conv => whnf) | (with_reducible refine branch_not ?_) | ((with_reducible refine slc_e ?_); conv => whnf) | ((with_reducible refine callS_a ?_); conv => whnf) | ((with_reducible refine own_e ?_); conv => whnf)))
  refine call_e ((meets_ok awakeP8 [1, 2] awakeP8_fits (by decide)).mono fun r h => h.trans (bool_eq e3)) ?_
  (conv => whnf); (repeat (first | (refine arith_i ⟨by omega, by omega⟩ ?_; conv => whnf) | (refine need_i (by first | omega | (simp only [List.length_append, List.length_cons, List.length_nil]; omega)) ?_; conv => whnf) | ((with_reducible refine branch_tt ?_); conv => whnf) | ((with_reducible refine branch_ff ?_); conv => whnf) | (with_reducible refine branch_not ?_) | ((with_reducible refine slc_e ?_); conv => whnf) | ((with_reducible refine callS_a ?_); conv => whnf) | ((with_reducible refine own_e ?_); conv => whnf)))
  refine branch_t rfl ?_
  (conv => whnf); (repeat (first | (refine arith_i ⟨by omega, by omega⟩ ?_; conv => whnf) | (refine need_i (by first | omega | (simp only [List.length_append, List.length_cons, List.length_nil]; omega)) ?_; conv => whnf) | ((with_reducible refine branch_tt ?_); conv => whnf) | ((with_reducible refine branch_ff ?_); conv => whnf) | (with_reducible refine branch_not ?_) | ((with_reducible refine slc_e ?_); conv => whnf) | ((with_reducible refine callS_a ?_); conv => whnf) | ((with_reducible refine own_e ?_); conv => whnf)))
  refine branch_t rfl ?_
  (conv => whnf); (repeat (first | (refine arith_i ⟨by omega, by omega⟩ ?_; conv => whnf) | (refine need_i (by first | omega | (simp only [List.length_append, List.length_cons, List.length_nil]; omega)) ?_; conv => whnf) | ((with_reducible refine branch_tt ?_); conv => whnf) | ((with_reducible refine branch_ff ?_); conv => whnf) | (with_reducible refine branch_not ?_) | ((with_reducible refine slc_e ?_); conv => whnf) | ((with_reducible refine callS_a ?_); conv => whnf) | ((with_reducible refine own_e ?_); conv => whnf)))
  refine call_e ((dead_ok awakeP8 [0, -1, -1] awakeP8_fits (by decide)).mono fun r h => h.trans (int_eq e4)) ?_
  (conv => whnf); (repeat (first | (refine arith_i ⟨by omega, by omega⟩ ?_; conv => whnf) | (refine need_i (by first | omega | (simp only [List.length_append, List.length_cons, List.length_nil]; omega)) ?_; conv => whnf) | ((with_reducible refine branch_tt ?_); conv => whnf) | ((with_reducible refine branch_ff ?_); conv => whnf) | (with_reducible refine branch_not ?_) | ((with_reducible refine slc_e ?_); conv => whnf) | ((with_reducible refine callS_a ?_); conv => whnf) | ((with_reducible refine own_e ?_); conv => whnf)))
  exact ret_p rfl rfl
/-- The rows that Rows returns. -/
def rowsO (b : Blu) (l : List Itm) : List Row := if rowsE b l = 0 then rowsL b l else []
theorem rowsR_eq (b : Blu) (l : List Itm) : rowsR b l = .tup [rowsV (rowsO b l), .int .i64 (rowsE b l)] := rfl
theorem pairJ_mem {l : List Itm} {i : Nat} {r : Row} : ∀ {m j : Nat}, r ∈ pairJ l i m j → ∃ i j, r = pairRow l.length i j
  | 0, j, h => by simp [pairJ] at h
  | m + 1, j, h => by
    rw [pairJ, List.mem_append] at h
    rcases h with h | h
    · cases hc : clashB (itmAt l i) (itmAt l j) <;> simp [hc] at h
      exact ⟨i, j, h⟩
    · exact pairJ_mem h
theorem pairI_mem {l : List Itm} {r : Row} : ∀ {m i : Nat}, r ∈ pairI l m i → ∃ i j, r = pairRow l.length i j
  | 0, i, h => by simp [pairI] at h
  | m + 1, i, h => by
    rw [pairI, List.mem_append] at h
    rcases h with h | h
    · exact pairJ_mem h
    · exact pairI_mem h
theorem rowsL_coefs {b : Blu} {l : List Itm} : ∀ r ∈ rowsL b l, r.coefs.length = l.length := by
  intro r hr
  simp only [rowsL, List.mem_append, List.mem_map, List.mem_cons, List.not_mem_nil, or_false] at hr
  rcases hr with ((((h | ⟨x, -, h⟩) | ⟨x, -, h⟩) | ⟨x, -, h⟩) | h) | ⟨x, -, h⟩
  · rcases h with h | h <;> (subst h; simp [row1, row2])
  · subst h; simp [rowT]
  · subst h; simp [rowT]
  · subst h; simp [rowR]
  · obtain ⟨i, j, rfl⟩ := pairI_mem h; simp [pairRow]
  · subst h; simp [rowP]
theorem rowsO_fit {b : Blu} {l : List Itm} (hl : l.length ≤ 1000) : (rowsO b l).length ≤ 60 ∧ ∀ r ∈ rowsO b l, r.coefs.length = l.length := by
  unfold rowsO
  split
  · next h =>
    refine ⟨?_, rowsL_coefs⟩
    unfold rowsE at h
    split at h
    · omega
    split at h
    · cases h
    split at h
    · cases h
    split at h
    · cases h
    · omega
  · exact ⟨Nat.zero_le _, by simp⟩
end Go.Proofs.Ytpglaaiecgjmmaa
