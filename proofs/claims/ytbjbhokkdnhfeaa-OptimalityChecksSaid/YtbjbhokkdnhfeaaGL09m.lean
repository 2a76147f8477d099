/- Layer 9: the bound is sound; the law OptimalityBoundSound. -/
import Derived.Test.YtbjbhokkdnhfeaaGL09l

namespace Go.Proofs.Ytbjbhokkdnhfeaa
set_option linter.unusedVariables false
set_option linter.unusedSimpArgs false
set_option linter.unnecessarySimpa false
set_option linter.unusedSectionVars false
set_option maxRecDepth 10000
open Go.RowKit

theorem ceil_le {a b c : Int} (hb : 1 ≤ b) (h : a ≤ b * c) : ceilF a b ≤ c := by
  unfold ceilF
  have e := Int.mul_tdiv_add_tmod a b
  split
  · next hp =>
    rcases Int.lt_or_le (a.tdiv b) c with h1 | h1
    · omega
    · have := Int.mul_le_mul_of_nonneg_left h1 (show (0 : Int) ≤ b by omega)
      omega
  · next hp =>
    rcases Int.lt_or_le c (a.tdiv b) with h1 | h1
    · exfalso
      have h2 := Int.mul_le_mul_of_nonneg_left (show c + 1 ≤ a.tdiv b by omega) (show (0 : Int) ≤ b by omega)
      have h3 : b * (c + 1) = b * c + b := by rw [Int.mul_add, Int.mul_one]
      have h4 : -b < a.tmod b := by
        have := Int.neg_emod_two b
        have h5 := Int.lt_tmod_of_pos a (show 0 < b by omega)
        exact h5
      omega
    · exact h1
theorem contr_sum {P : Prog} {st : List Int} {n : Nd} {b : Nat} (hc : Compl st b) (ht : AllTo triB st st.length) : ∀ k, k ≤ st.length → sumN (fun i => contr (nth st i) (nodeV P n i)) k ≤ n.den * bitSum P.costs b k - n.num * bitSum (rowOf P n).coefs b k
  | 0, _ => by simp [sumN, bitSum]
  | k + 1, hk => by
    have ih := contr_sum (P := P) (n := n) hc ht k (by omega)
    have hck := hc k (by omega)
    have htk := triB_iff.1 (ht k (by omega))
    simp only [sumN, bitSum, Int.mul_add]
    have hv : nodeV P n k = n.den * nth P.costs k - n.num * nth (rowOf P n).coefs k := rfl
    have key : contr (nth st k) (nodeV P n k) ≤ n.den * (if b.testBit k = true then nth P.costs k else 0) - n.num * (if b.testBit k = true then nth (rowOf P n).coefs k else 0) := by
      unfold contr
      by_cases h1 : nth st k = 1
      · rw [if_pos h1, if_pos (hck.1 h1), if_pos (hck.1 h1)]; omega
      · by_cases h2 : nth st k = -1
        · rw [if_neg h1, if_pos h2]
          by_cases hb : b.testBit k = true
          · rw [if_pos hb, if_pos hb]; omega
          · rw [if_neg hb, if_neg hb]; simp only [Int.mul_zero]; omega
        · have h0 : nth st k = 0 := by omega
          have hb := hck.2 h0
          rw [if_neg h1, if_neg h2, if_neg (by simp [hb]), if_neg (by simp [hb])]
          simp
    omega
theorem bitSum_zero {b n : Nat} : ∀ k, bitSum (List.replicate n 0) b k = 0
  | 0 => rfl
  | k + 1 => by
    have : nth (List.replicate n (0 : Int)) k = 0 := by
      simp only [nth, List.getD_eq_getElem?_getD, List.getElem?_replicate]
      split <;> rfl
    rw [bitSum, bitSum_zero k, this]; simp
/-- Every completion that meets the program costs at least the bound. -/
theorem bound_sound {P : Prog} {st : List Int} {n : Nd} {b : Nat} (hv : validB P = true) (hb : bndB P.rows.length n = true) (hl : st.length = P.costs.length) (ht : AllTo triB st st.length) (hc : Compl st b) (hm : meetsB P (subTo b P.costs.length) = true) : boundF P st n ≤ costF P (subTo b P.costs.length) := by
  have hcost : costF P (subTo b P.costs.length) = bitSum P.costs b P.costs.length := by
    have : costOk P (subTo b P.costs.length) = true := by simp [costOk, hv, sub_choice]
    rw [costF, if_pos this, sumOf_sub]
  obtain ⟨hn, hd⟩ := node_in hb
  rw [hcost, boundF]
  refine ceil_le hd.1 ?_
  have h1 := contr_sum (P := P) (n := n) hc ht st.length (Nat.le_refl _)
  rw [hl] at h1
  unfold totF
  have h2 : startF P n ≤ n.num * bitSum (rowOf P n).coefs b P.costs.length := by
    unfold startF
    by_cases hr : n.row < 0
    · have e : rowOf P n = ⟨List.replicate P.costs.length 0, 0, 0⟩ := by rw [rowOf, if_pos hr]
      rw [e]
      simp only [bitSum_zero]
      split <;> omega
    · have hrow : n.row.toNat < P.rows.length := by
        rw [bnd_row] at hb
        simp [rowOk9] at hb
        omega
      have hmem : rowOf P n ∈ P.rows := by rw [rowOf, if_neg hr]; exact rowAt_mem hrow
      have hmeet : meetB (subTo b P.costs.length) (rowOf P n) = true := by
        simp only [meetsB, Bool.and_eq_true] at hm
        exact List.all_eq_true.1 hm.2 _ hmem
      simp only [meetB, Bool.and_eq_true, decide_eq_true_eq, sumOf_sub] at hmeet
      split
      · next hneg =>
        have := Int.mul_le_mul_of_nonneg_left hmeet.2 (show 0 ≤ -n.num by omega)
        rw [Int.neg_mul, Int.neg_mul] at this
        omega
      · next hneg => exact Int.mul_le_mul_of_nonneg_left hmeet.1 (by omega)
  omega
theorem tri_all {st : List Int} {c : Nat} (h : stOB st c = true) : AllTo triB st st.length := by
  simp only [stOB, Bool.and_eq_true] at h
  exact AllTo.of_all (p := triB) h.2
theorem call_bound {P : Prog} {st : List Int} {r nu d : Int} {K : AV → Prop} (hfit : Fits P) (hv : validB P = true) (hs : stOB st P.costs.length = true) (hn : rowOk9 P.rows.length ⟨3, 0, 0, 0, r, nu, d⟩ = true)
    {alt : Prop} (h : ∀ b : Int, (∀ t : Nat, Compl st t → meetsB P (subTo t P.costs.length) = true → b ≤ costF P (subTo t P.costs.length)) → K (.tup [.int .i64 b, .bool true])) : acall Try.prog TT false 37 [progV P, ints st, .agg (encN ⟨3, 0, 0, 0, r, nu, d⟩)] K alt := by
  have hl := st_len hs
  have hb : bndB P.rows.length ⟨3, 0, 0, 0, r, nu, d⟩ = true := by rw [bnd_row, hn]; rfl
  have hok : okB P st ⟨3, 0, 0, 0, r, nu, d⟩ = true := by simp [okB, hv, hs, hb]
  have hP := hfit.1
  refine call_e ((bound_ok P st ⟨3, 0, 0, 0, r, nu, d⟩ hfit (by omega)).mono fun r h => h.trans (by rw [boundV, hok, if_pos rfl])) (h _ fun t hc hm => bound_sound hv hb hl (tri_all hs) hc hm)
end Go.Proofs.Ytbjbhokkdnhfeaa
