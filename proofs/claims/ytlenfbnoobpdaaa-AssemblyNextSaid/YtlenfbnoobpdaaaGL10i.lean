/- Layer 10: the law AssemblyLeast. -/
import Derived.Test.YtlenfbnoobpdaaaGL10h
namespace Go.Proofs.Ytlenfbnoobpdaaa
set_option linter.unusedVariables false
set_option linter.unusedSimpArgs false
set_option linter.unnecessarySimpa false
set_option linter.unusedSectionVars false
set_option maxRecDepth 10000
open Go.RowKit
theorem bef_nil_l {b : List Int} : befB [] b = decide (0 < b.length) := by cases b <;> rfl
theorem bef_nil_r {a : List Int} : befB a [] = false := by cases a <;> rfl
set_option maxHeartbeats 4000000 in
theorem before_ok (a b : List Int) (ha : a.length ≤ 1000000) (hb : b.length ≤ 1000000) : Good Try.prog TT false 42 [ints a, ints b] (· = .bool (befB a b)) := by
  have LA : (a.map encI).length = a.length := List.length_map ..
  have LB : (b.map encI).length = b.length := List.length_map ..
  refine good_of mixed tabOk Try.func42 rfl rfl Try.ntmps42 Try.results42 rfl rfl ?_
  (conv => whnf); (repeat' (first | (refine arith_i ⟨by omega, by omega⟩ ?_; conv => whnf) | (refine arith_u ⟨by omega, by omega⟩ ?_; conv => whnf) | (refine need_i (by first | omega | (simp only [List.length_append, List.length_cons, List.length_nil, List.length_map, List.length_replicate, List.length_modify]; omega)) ?_; conv => whnf) | ((with_reducible refine branch_tt ?_); conv => whnf) | ((with_reducible refine branch_ff ?_); conv => whnf) | (with_reducible refine branch_not ?_) | ((with_reducible refine slc_e ?_); conv => whnf) | ((with_reducible refine callS_a ?_); conv => whnf) | ((with_reducible refine own_e ?_); conv => whnf) | (refine draw_i 9 (.take 0 (.take 1 (.take 2 (.take 3 (.take 4 (.take 5 (.take 6 (.take 7 (.take 8 .done))))))))) (by decide +kernel) ?_; (conv => whnf); fail_if_success (guard_target =~ False)) | (refine draw_i 9 (.take 0 (.take 1 (.take 2 (.take 4 (.take 5 (.take 6 (.alt 3 (.alt 7 (.take 8 .done) .stop) (.alt 7 (.alt 3 (.take 8 .done) .stop) .stop)))))))) (by decide +kernel) ?_; (conv => whnf); fail_if_success (guard_target =~ False)) | (refine draw_i 10 (.take 0 (.take 1 (.take 2 (.take 3 (.take 4 (.take 5 (.take 6 (.take 7 (.take 8 (.take 9 .done)))))))))) (by decide +kernel) ?_; (conv => whnf); fail_if_success (guard_target =~ False)) | (refine draw_i 10 (.take 0 (.take 1 (.take 2 (.take 4 (.take 5 (.take 6 (.alt 3 (.alt 7 (.take 8 (.take 9 .done)) .stop) (.alt 7 (.alt 3 (.take 8 (.take 9 .done)) .stop) .stop)))))))) (by decide +kernel) ?_; (conv => whnf); fail_if_success (guard_target =~ False)) | ((with_reducible refine And.intro ?_ ?_) <;> (conv => whnf)) | (with_reducible exact trivial) | ((with_reducible refine branch_d (fun hq => ?_) (fun hq => ?_)) <;> (try (exfalso; omega)) <;> (conv => whnf)) | ((with_reducible refine branch_e (fun hq => ?_) (fun hq => ?_)) <;> (try (exfalso; omega)) <;> (conv => whnf)) | ((with_reducible refine branch_n (fun hq => ?_) (fun hq => ?_)) <;> (try (exfalso; omega)) <;> (conv => whnf)) | ((with_reducible refine branch_i (fun hq => ?_) (fun hq => ?_)) <;> (try (exfalso; omega)) <;> (conv => whnf))))
  refine loop_i (fun k : Nat => k ≤ a.length ∧ k ≤ b.length ∧ befB a b = befB (a.drop k) (b.drop k)) (fun k => mkSt [(0, ints a), (1, ints b), (5, .int .i64 k)] [] false) (fun k => a.length - k) 0 ⟨Nat.zero_le _, Nat.zero_le _, rfl⟩ (le_mk (by repeat' (first | exact trivial | rfl | apply And.intro)) (by repeat' (first | exact trivial | rfl | apply And.intro)) rfl) ?_
  rintro k ⟨hka, hkb, hbef⟩
  (conv => whnf); (repeat' (first | (refine arith_i ⟨by omega, by omega⟩ ?_; conv => whnf) | (refine arith_u ⟨by omega, by omega⟩ ?_; conv => whnf) | (refine need_i (by first | omega | (simp only [List.length_append, List.length_cons, List.length_nil, List.length_map, List.length_replicate, List.length_modify]; omega)) ?_; conv => whnf) | ((with_reducible refine branch_tt ?_); conv => whnf) | ((with_reducible refine branch_ff ?_); conv => whnf) | (with_reducible refine branch_not ?_) | ((refine idx_cs (by assumption) ?_); conv => whnf) | (((refine idx_c (xs := a) (by omega) fun x hx => ?_)); conv => whnf) | (((refine idx_c (xs := b) (by omega) fun y hy => ?_; rw [drop_at hx, drop_at hy, befB] at hbef)); conv => whnf) | ((with_reducible refine slc_e ?_); conv => whnf) | ((with_reducible refine callS_a ?_); conv => whnf) | ((with_reducible refine own_e ?_); conv => whnf) | (refine draw_i 9 (.take 0 (.take 1 (.take 2 (.take 3 (.take 4 (.take 5 (.take 6 (.take 7 (.take 8 .done))))))))) (by decide +kernel) ?_; (conv => whnf); fail_if_success (guard_target =~ False)) | (refine draw_i 9 (.take 0 (.take 1 (.take 2 (.take 4 (.take 5 (.take 6 (.alt 3 (.alt 7 (.take 8 .done) .stop) (.alt 7 (.alt 3 (.take 8 .done) .stop) .stop)))))))) (by decide +kernel) ?_; (conv => whnf); fail_if_success (guard_target =~ False)) | (refine draw_i 10 (.take 0 (.take 1 (.take 2 (.take 3 (.take 4 (.take 5 (.take 6 (.take 7 (.take 8 (.take 9 .done)))))))))) (by decide +kernel) ?_; (conv => whnf); fail_if_success (guard_target =~ False)) | (refine draw_i 10 (.take 0 (.take 1 (.take 2 (.take 4 (.take 5 (.take 6 (.alt 3 (.alt 7 (.take 8 (.take 9 .done)) .stop) (.alt 7 (.alt 3 (.take 8 (.take 9 .done)) .stop) .stop)))))))) (by decide +kernel) ?_; (conv => whnf); fail_if_success (guard_target =~ False)) | ((with_reducible refine And.intro ?_ ?_) <;> (conv => whnf)) | (with_reducible exact trivial) | ((with_reducible refine branch_d (fun hq => ?_) (fun hq => ?_)) <;> (try (exfalso; omega)) <;> (conv => whnf)) | ((with_reducible refine branch_e (fun hq => ?_) (fun hq => ?_)) <;> (try (exfalso; omega)) <;> (conv => whnf)) | ((with_reducible refine branch_n (fun hq => ?_) (fun hq => ?_)) <;> (try (exfalso; omega)) <;> (conv => whnf)) | ((with_reducible refine branch_i (fun hq => ?_) (fun hq => ?_)) <;> (try (exfalso; omega)) <;> (conv => whnf))))
  all_goals first
    | (rw [if_neg (by assumption)] at hbef
       exact ret_p rfl (bool_eq hbef.symm))
    | (rw [if_pos (by assumption)] at hbef
       exact ⟨k + 1, ⟨by omega, by omega, hbef⟩, (le_mk (by repeat' (first | exact trivial | rfl | apply And.intro)) (by repeat' (first | exact trivial | rfl | apply And.intro)) rfl), by omega⟩)
    | (rw [drop_end (xs := a) (by omega), bef_nil_l] at hbef
       refine ret_p rfl (bool_eq ?_)
       rw [hbef, Bool.eq_iff_iff]
       simp only [decide_eq_true_eq, List.length_drop, LA, LB]
       omega)
    | (rw [drop_end (xs := b) (by omega), bef_nil_r] at hbef
       refine ret_p rfl (bool_eq ?_)
       rw [hbef]
       simp only [decide_eq_false_iff_not, LA, LB]
       omega)
    | trace_state
/-- No choice that meets the program is better. -/
theorem least_ok {P : Prog} (hv : validB P = true) {c : List Int} (hc : Asc 0 P.costs.length c) (hm : meetsB P c = true) : (bestF P).1 = true ∧ (bestF P).2.1 ≤ costF P c ∧ ((bestF P).2.1 = costF P c → befB c (bestF P).2.2 = false) := by
  have hb := best_is P
  have hin : c ∈ allF P := all_mem.2 ⟨hc, by rw [← meets_asc hv hc]; exact hm⟩
  have hcost := (all_meets hv hin).2.1
  have h1 : (bestF P).1 = true := by
    cases h : (bestF P).1 with
    | true => rfl
    | false => rw [(hb.none h).1] at hin; simp at hin
  refine ⟨h1, by rw [hcost]; exact hb.least h1 c hin, fun he => ?_⟩
  obtain ⟨l1, l2, h2, h3⟩ := hb.first h1
  rw [h2] at hin
  have hs := all_sorted (P := P)
  rw [h2] at hs
  rcases List.mem_append.1 hin with h | h
  · have := h3 c h; omega
  · rcases List.mem_cons.1 h with rfl | h
    · cases hh : befB (bestF P).2.2 (bestF P).2.2 with
      | false => rfl
      | true => have := bef_asymm hh; rw [hh] at this; cases this
    · exact bef_asymm ((List.pairwise_cons.1 (List.pairwise_append.1 hs).2.1).1 c h)
theorem best_meets {P : Prog} (hv : validB P = true) (h : (bestF P).1 = true) : meetsB P (bestF P).2.2 = true ∧ costF P (bestF P).2.2 = (bestF P).2.1 ∧ Asc 0 P.costs.length (bestF P).2.2 := by
  have hb := best_is P
  have h1 := hb.mem h
  have h2 := all_meets hv h1.1
  exact ⟨h2.1, by rw [h2.2.1, h1.2], h2.2.2⟩
theorem best_len {P : Prog} (hv : validB P = true) : (bestF P).2.2.length ≤ 12 := by
  cases h : (bestF P).1 with
  | true => have := asc_len (best_meets hv h).2.2; have := (validB_parts hv).1; omega
  | false => rw [((best_is P).none h).2]; simp
set_option maxHeartbeats 4000000 in
theorem least_law (xs : List Int) (hx : xs.length ≤ 9223372036854775807) : Good Try.prog TT false 10 [ints xs] (· = .bool true) := by
  refine good_of mixed tabOk Try.func10 rfl rfl Try.ntmps10 Try.results10 rfl rfl ?_
  (conv => whnf); (repeat' (first | (refine arith_i ⟨by omega, by omega⟩ ?_; conv => whnf) | (refine arith_u ⟨by omega, by omega⟩ ?_; conv => whnf) | (refine need_i (by first | omega | (simp only [List.length_append, List.length_cons, List.length_nil, List.length_map, List.length_replicate, List.length_modify]; omega)) ?_; conv => whnf) | ((with_reducible refine branch_tt ?_); conv => whnf) | ((with_reducible refine branch_ff ?_); conv => whnf) | (with_reducible refine branch_not ?_) | ((refine call_e (new_ok xs hx) ?_); conv => whnf) | (((refine call_i (program_any 6 0 (by omega) (by omega)) fun r hr => ?_; obtain ⟨P, rfl, hP, -, hg0⟩ := hr; have hg := hg0 rfl; have hv := progG_valid hg (by omega); have h6 : P.costs.length ≤ 6 := by {have := hg.len; omega}; have LC : (P.costs.map encI).length = P.costs.length := List.length_map ..; have LR : (P.rows.map encRow).length = P.rows.length := List.length_map ..; have hP1 := hP.1; have hP2 := hP.2.1; have hfit : Fits P := fits_of hv; have hbl := best_len hv; have hsv : solveV P = .tup [.agg [.bool (bestF P).1, ints (bestF P).2.2, .int .i64 (bestF P).2.1, ndsV (certF P (bestF P).1 (bestF P).2.1)], .int .i64 0] := if_pos hv)); conv => whnf) | ((refine call_e ((solve_ok P hfit).mono fun r h => h.trans hsv) ?_); conv => whnf) | ((refine call_e (meets_ok P (bestF P).2.2 hfit (by omega)) ?_); conv => whnf) | ((with_reducible refine slc_e ?_); conv => whnf) | ((with_reducible refine callS_a ?_); conv => whnf) | ((with_reducible refine own_e ?_); conv => whnf) | ((with_reducible refine branch_d (fun hq => ?_) (fun hq => ?_)) <;> (try (exfalso; omega)) <;> (conv => whnf)) | ((with_reducible refine branch_e (fun hq => ?_) (fun hq => ?_)) <;> (try (exfalso; omega)) <;> (conv => whnf)) | ((with_reducible refine branch_n (fun hq => ?_) (fun hq => ?_)) <;> (try (exfalso; omega)) <;> (conv => whnf)) | ((with_reducible refine branch_i (fun hq => ?_) (fun hq => ?_)) <;> (try (exfalso; omega)) <;> (conv => whnf))))
  rotate_left 1
  · exfalso
    have := (best_meets hv (by assumption)).1
    rw [hq] at this
    cases this
  all_goals
    obtain ⟨N, hN⟩ : ∃ N : Nat, N = 2 ^ P.costs.length := ⟨_, rfl⟩
    have hN64 : N ≤ 64 := by rw [hN]; exact Nat.pow_le_pow_right (by omega) h6
    have eN := shl_pow (by omega) hN
    refine loop_i (fun t : Nat => t ≤ N) (fun t => mkSt [(3, .ptr 3 0), (4, .int .i64 P.costs.length), (5, .ptr 5 0), (7, .int .i64 t)] [(3, [ints P.costs, rowsV P.rows]), (5, [.bool (bestF P).1, ints (bestF P).2.2, .int .i64 (bestF P).2.1, ndsV (certF P (bestF P).1 (bestF P).2.1)])] true) (fun t => N - t) 0 (Nat.zero_le _) (by rw [← LC]; exact (le_mk (by repeat' (first | exact trivial | rfl | apply And.intro)) (by repeat' (first | exact trivial | rfl | apply And.intro)) rfl)) ?_
    intro t ht
    have hsl := sub_len t P.costs.length
    have hlo := fun h => least_ok hv (sub_Asc t P.costs.length) h
    (conv => whnf); (repeat' (first | (refine arith_i ⟨by omega, by omega⟩ ?_; conv => whnf) | (refine arith_u ⟨by omega, by omega⟩ ?_; conv => whnf) | (refine need_i (by first | omega | (simp only [List.length_append, List.length_cons, List.length_nil, List.length_map, List.length_replicate, List.length_modify]; omega)) ?_; conv => whnf) | ((with_reducible refine branch_tt ?_); conv => whnf) | ((with_reducible refine branch_ff ?_); conv => whnf) | (with_reducible refine branch_not ?_) | ((refine call_e awake_ok ?_); conv => whnf) | ((refine call_e (subset_ok P.costs.length t (by omega) (by omega)) ?_); conv => whnf) | ((refine call_e (meets_ok P (subTo t P.costs.length) hfit (by omega)) ?_); conv => whnf) | ((refine call_e (cost_ok P (subTo t P.costs.length) hfit (by omega)) ?_); conv => whnf) | ((refine call_e (before_ok (subTo t P.costs.length) (bestF P).2.2 (by omega) (by omega)) ?_); conv => whnf) | ((with_reducible refine slc_e ?_); conv => whnf) | ((with_reducible refine callS_a ?_); conv => whnf) | ((with_reducible refine own_e ?_); conv => whnf) | ((with_reducible refine branch_d (fun hq => ?_) (fun hq => ?_)) <;> (try (exfalso; omega)) <;> (conv => whnf)) | ((with_reducible refine branch_e (fun hq => ?_) (fun hq => ?_)) <;> (try (exfalso; omega)) <;> (conv => whnf)) | ((with_reducible refine branch_n (fun hq => ?_) (fun hq => ?_)) <;> (try (exfalso; omega)) <;> (conv => whnf)) | ((with_reducible refine branch_i (fun hq => ?_) (fun hq => ?_)) <;> (try (exfalso; omega)) <;> (conv => whnf))))
    all_goals first
      | exact ret_p rfl rfl
      | (have h7 : (t : Int) < 1 * 2 ^ min ((P.costs.length : Int)).toNat IntKind.i64.bits := by assumption
         rw [eN] at h7
         exact ⟨t + 1, by omega, (le_mk (by repeat' (first | exact trivial | rfl | apply And.intro)) (by repeat' (first | exact trivial | rfl | apply And.intro)) rfl), by omega⟩)
      | (exfalso
         have hh := hlo (by assumption)
         first
           | omega
           | (rw [hh.1] at hq; cases hq)
           | (have e2 := hh.2.2 (by omega)
              rw [e2] at hq; cases hq))
end Go.Proofs.Ytlenfbnoobpdaaa
