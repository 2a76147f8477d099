/- Layer 9: the bound is sound; the law OptimalityBoundSound. -/
import Derived.Test.YtlminbeepaacjaaGL09l

namespace Go.Proofs.Ytlminbeepaacjaa
set_option linter.unusedVariables false
set_option linter.unusedSimpArgs false
set_option linter.unnecessarySimpa false
set_option linter.unusedSectionVars false
set_option maxRecDepth 10000
open Go.RowKit

theorem ceil_le {a b c : Int} (hb : 1 ≤ b) (h : a ≤ b * c) : ceilF a b ≤ c := by
  unfold ceilF
  have e := Int.mul_tdiv_add_tmod a b
  split
  · next hp =>
    rcases Int.lt_or_le (a.tdiv b) c with h1 | h1
    · omega
    · have := Int.mul_le_mul_of_nonneg_left h1 (show (0 : Int) ≤ b by omega)
      omega
  · next hp =>
    rcases Int.lt_or_le c (a.tdiv b) with h1 | h1
    · exfalso
      have h2 := Int.mul_le_mul_of_nonneg_left (show c + 1 ≤ a.tdiv b by omega) (show (0 : Int) ≤ b by omega)
      have h3 : b * (c + 1) = b * c + b := by rw [Int.mul_add, Int.mul_one]
      have h4 : -b < a.tmod b := by
        have := Int.neg_emod_two b
        have h5 := Int.lt_tmod_of_pos a (show 0 < b by omega)
        exact h5
      omega
    · exact h1
theorem contr_sum {P : Prog} {st : List Int} {n : Nd} {b : Nat} (hc : Compl st b) (ht : AllTo triB st st.length) : ∀ k, k ≤ st.length → sumN (fun i => contr (nth st i) (nodeV P n i)) k ≤ n.den * bitSum P.costs b k - n.num * bitSum (rowOf P n).coefs b k
  | 0, _ => by simp [sumN, bitSum]
  | k + 1, hk => by
    have ih := contr_sum (P := P) (n := n) hc ht k (by omega)
    have hck := hc k (by omega)
    have htk := triB_iff.1 (ht k (by omega))
    simp only [sumN, bitSum, Int.mul_add]
    have hv : nodeV P n k = n.den * nth P.costs k - n.num * nth (rowOf P n).coefs k := rfl
    have key : contr (nth st k) (nodeV P n k) ≤ n.den * (if b.testBit k = true then nth P.costs k else 0) - n.num * (if b.testBit k = true then nth (rowOf P n).coefs k else 0) := by
      unfold contr
      by_cases h1 : nth st k = 1
      · rw [if_pos h1, if_pos (hck.1 h1), if_pos (hck.1 h1)]; omega
      · by_cases h2 : nth st k = -1
        · rw [if_neg h1, if_pos h2]
          by_cases hb : b.testBit k = true
          · rw [if_pos hb, if_pos hb]; omega
          · rw [if_neg hb, if_neg hb]; simp only [Int.mul_zero]; omega
        · have h0 : nth st k = 0 := by omega
          have hb := hck.2 h0
          rw [if_neg h1, if_neg h2, if_neg (by simp [hb]), if_neg (by simp [hb])]
          simp
    omega
theorem bitSum_zero {b n : Nat} : ∀ k, bitSum (List.replicate n 0) b k = 0
  | 0 => rfl
  | k + 1 => by
    have : nth (List.replicate n (0 : Int)) k = 0 := by
      simp only [nth, List.getD_eq_getElem?_getD, List.getElem?_replicate]
      split <;> rfl
    rw [bitSum, bitSum_zero k, this]; simp
/-- Every completion that meets the program costs at least the bound. -/
theorem bound_sound {P : Prog} {st : List Int} {n : Nd} {b : Nat} (hv : validB P = true) (hb : bndB P.rows.length n = true) (hl : st.length = P.costs.length) (ht : AllTo triB st st.length) (hc : Compl st b) (hm : meetsB P (subTo b P.costs.length) = true) : boundF P st n ≤ costF P (subTo b P.costs.length) := by
  have hcost : costF P (subTo b P.costs.length) = bitSum P.costs b P.costs.length := by
    have : costOk P (subTo b P.costs.length) = true := by simp [costOk, hv, sub_choice]
    rw [costF, if_pos this, sumOf_sub]
  obtain ⟨hn, hd⟩ := node_in hb
  rw [hcost, boundF]
  refine ceil_le hd.1 ?_
  have h1 := contr_sum (P := P) (n := n) hc ht st.length (Nat.le_refl _)
  rw [hl] at h1
  unfold totF
  have h2 : startF P n ≤ n.num * bitSum (rowOf P n).coefs b P.costs.length := by
    unfold startF
    by_cases hr : n.row < 0
    · have e : rowOf P n = ⟨List.replicate P.costs.length 0, 0, 0⟩ := by rw [rowOf, if_pos hr]
      rw [e]
      simp only [bitSum_zero]
      split <;> omega
    · have hrow : n.row.toNat < P.rows.length := by
        rw [bnd_row] at hb
        simp [rowOk9] at hb
        omega
      have hmem : rowOf P n ∈ P.rows := by rw [rowOf, if_neg hr]; exact rowAt_mem hrow
      have hmeet : meetB (subTo b P.costs.length) (rowOf P n) = true := by
        simp only [meetsB, Bool.and_eq_true] at hm
        exact List.all_eq_true.1 hm.2 _ hmem
      simp only [meetB, Bool.and_eq_true, decide_eq_true_eq, sumOf_sub] at hmeet
      split
      · next hneg =>
        have := Int.mul_le_mul_of_nonneg_left hmeet.2 (show 0 ≤ -n.num by omega)
        rw [Int.neg_mul, Int.neg_mul] at this
        omega
      · next hneg => exact Int.mul_le_mul_of_nonneg_left hmeet.1 (by omega)
  omega
theorem tri_all {st : List Int} {c : Nat} (h : stOB st c = true) : AllTo triB st st.length := by
  simp only [stOB, Bool.and_eq_true] at h
  exact AllTo.of_all (p := triB) h.2
theorem call_bound {P : Prog} {st : List Int} {r nu d : Int} {K : AV → Prop} (hfit : Fits P) (hv : validB P = true) (hs : stOB st P.costs.length = true) (hn : rowOk9 P.rows.length ⟨3, 0, 0, 0, r, nu, d⟩ = true)
    (h : ∀ b : Int, (∀ t : Nat, Compl st t → meetsB P (subTo t P.costs.length) = true → b ≤ costF P (subTo t P.costs.length)) → K (.tup [.int .i64 b, .bool true])) : acall Try.prog TT false 18 [progV P, ints st, .agg (encN ⟨3, 0, 0, 0, r, nu, d⟩)] K := by
  have hl := st_len hs
  have hb : bndB P.rows.length ⟨3, 0, 0, 0, r, nu, d⟩ = true := by rw [bnd_row, hn]; rfl
  have hok : okB P st ⟨3, 0, 0, 0, r, nu, d⟩ = true := by simp [okB, hv, hs, hb]
  have hP := hfit.1
  refine call_e ((bound_ok P st ⟨3, 0, 0, 0, r, nu, d⟩ hfit (by omega)).mono fun r h => h.trans (by rw [boundV, hok, if_pos rfl])) (h _ fun t hc hm => bound_sound hv hb hl (tri_all hs) hc hm)
set_option maxHeartbeats 2000000 in
theorem boundSound_law (xs : List Int) (num den : Int) (hx : xs.length ≤ 9223372036854775807) : Good Try.prog TT false 8 [ints xs, .int .i64 num, .int .i64 den] (· = .bool true) := by
  have c1 := cutG_in num 20001 (by omega)
  have c2 := cutG_in den 10000 (by omega)
  refine good_of mixed tabOk Try.func8 rfl rfl Try.ntmps8 Try.results8 rfl rfl ?_
  (conv => whnf); (repeat' (first | (refine arith_i ⟨by omega, by omega⟩ ?_; conv => whnf) | (refine arith_u ⟨by omega, by omega⟩ ?_; conv => whnf) | (refine need_i (by first | omega | (simp only [List.length_append, List.length_cons, List.length_nil, List.length_map, List.length_replicate, List.length_modify]; omega)) ?_; conv => whnf) | ((with_reducible refine branch_tt ?_); conv => whnf) | ((with_reducible refine branch_ff ?_); conv => whnf) | (with_reducible refine branch_not ?_) | ((refine call_e (new_ok xs hx) ?_); conv => whnf) | (((refine call_i (program_any 5 0 (by omega) (by omega)) fun r hr => ?_; obtain ⟨P, rfl, hP, -, hg0⟩ := hr; have hg := hg0 rfl; have hv := progG_valid hg (by omega); have h5 : P.costs.length ≤ 5 := by {have := hg.len; omega}; have LC : (P.costs.map encI).length = P.costs.length := List.length_map ..; have LR : (P.rows.map encRow).length = P.rows.length := List.length_map ..; have hP1 := hP.1; have hP2 := hP.2.1; have hfit : Fits P := ⟨by omega, by omega, fun r hr => by have := hP.2.2 r hr; omega⟩)); conv => whnf) | (((rw [LC]; refine call_i (state_ok P.costs.length (by omega)) fun r hr => ?_; obtain ⟨st, rfl, hl, hst⟩ := hr; have LS : (st.map encI).length = st.length := List.length_map ..; have hs : stOB st P.costs.length = true := by {simp only [stOB, Bool.and_eq_true, decide_eq_true_eq, List.all_eq_true]; exact ⟨by omega, fun x hx => by have := hst x hx; simp [tri9]; omega⟩}; clear hst)); conv => whnf) | (((refine call_bound hfit hv hs (by first | (simp only [rowOk9, decide_eq_true_eq]; omega) | (simp [rowOk9]; omega)) fun b hbs => ?_)); conv => whnf) | (((refine call_i (next_ok _ (by omega)) fun r hr => ?_; obtain ⟨m1, rfl, -, h6⟩ := hr; have hm1 := h6 (by omega))); conv => whnf) | (((refine call_i (range_ok _ _ (by omega) (by omega)) fun r hr => ?_; obtain ⟨x, rfl, -, hx⟩ := hr)); conv => whnf) | ((refine call_e (cut_ok num 20001 (by omega)) ?_); conv => whnf) | ((refine call_e (cut_ok den 10000 (by omega)) ?_); conv => whnf) | ((with_reducible refine slc_e ?_); conv => whnf) | ((with_reducible refine branch_d (fun hq => ?_) (fun hq => ?_)) <;> (try (exfalso; omega)) <;> (conv => whnf)) | ((with_reducible refine branch_e (fun hq => ?_) (fun hq => ?_)) <;> (try (exfalso; omega)) <;> (conv => whnf)) | ((with_reducible refine branch_n (fun hq => ?_) (fun hq => ?_)) <;> (try (exfalso; omega)) <;> (conv => whnf)) | ((with_reducible refine branch_i (fun hq => ?_) (fun hq => ?_)) <;> (try (exfalso; omega)) <;> (conv => whnf))))
  all_goals
    obtain ⟨N, hN⟩ : ∃ N : Nat, N = 2 ^ P.costs.length := ⟨_, rfl⟩
    have hN32 : N ≤ 32 := by rw [hN]; exact Nat.pow_le_pow_right (by omega) h5
    have eN := shl_pow (by omega) hN
    refine loop_i (fun t : Nat => t ≤ N) (fun t => mkSt [(8, .ptr 8 0), (9, .int .i64 P.costs.length), (10, .own 27 3 1 (st.map encI)), (12, .int .i64 b), (14, .int .i64 t)] [(8, [ints P.costs, rowsV P.rows])] true) (fun t => N - t) 0 (Nat.zero_le _) (le_mk (by repeat' (first | exact trivial | rfl | apply And.intro)) (by repeat' (first | exact trivial | rfl | apply And.intro)) rfl) ?_
    intro t ht
    have hsl := sub_len t P.costs.length
    have hlen := st_len hs
    (conv => whnf); (repeat' (first | (refine arith_i ⟨by omega, by omega⟩ ?_; conv => whnf) | (refine arith_u ⟨by omega, by omega⟩ ?_; conv => whnf) | (refine need_i (by first | omega | (simp only [List.length_append, List.length_cons, List.length_nil, List.length_map, List.length_replicate, List.length_modify]; omega)) ?_; conv => whnf) | ((with_reducible refine branch_tt ?_); conv => whnf) | ((with_reducible refine branch_ff ?_); conv => whnf) | (with_reducible refine branch_not ?_) | ((refine call_e (subset_ok P.costs.length t (by omega) (by omega)) ?_); conv => whnf) | ((refine call_e (complete_ok st (subTo t P.costs.length) (by omega) (by omega)) ?_); conv => whnf) | ((refine call_e (cost_ok P (subTo t P.costs.length) hfit (by omega)) ?_); conv => whnf) | ((refine call_e (meets_ok P (subTo t P.costs.length) hfit (by omega)) ?_); conv => whnf) | ((refine call_e awake_ok ?_); conv => whnf) | ((with_reducible refine slc_e ?_); conv => whnf) | ((with_reducible refine branch_d (fun hq => ?_) (fun hq => ?_)) <;> (try (exfalso; omega)) <;> (conv => whnf)) | ((with_reducible refine branch_e (fun hq => ?_) (fun hq => ?_)) <;> (try (exfalso; omega)) <;> (conv => whnf)) | ((with_reducible refine branch_n (fun hq => ?_) (fun hq => ?_)) <;> (try (exfalso; omega)) <;> (conv => whnf)) | ((with_reducible refine branch_i (fun hq => ?_) (fun hq => ?_)) <;> (try (exfalso; omega)) <;> (conv => whnf))))
  all_goals first
    | exact ret_p rfl rfl
    | (exfalso
       have hc0 : completeB st (subTo t P.costs.length) = true := by assumption
       have hm0 : meetsB P (subTo t P.costs.length) = true := by assumption
       rw [← hlen] at hc0
       have := hbs t (com_sub.1 hc0) hm0
       omega)
    | (have ht' : t < N := by simp only [eN] at *; omega
       exact ⟨t + 1, by omega, (le_mk (by repeat' (first | exact trivial | rfl | apply And.intro)) (by repeat' (first | exact trivial | rfl | apply And.intro)) rfl), by omega⟩)
end Go.Proofs.Ytlminbeepaacjaa
