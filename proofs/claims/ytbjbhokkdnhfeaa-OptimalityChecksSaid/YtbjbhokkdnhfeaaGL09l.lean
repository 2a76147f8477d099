/- Layer 9: Has, complete, Subset; valid programs of the tape. -/
import Derived.Test.YtbjbhokkdnhfeaaGL09k
import Derived.Test.YtbjbhokkdnhfeaaGL00
namespace Go.Proofs.Ytbjbhokkdnhfeaa
set_option linter.unusedVariables false
set_option linter.unusedSimpArgs false
set_option linter.unnecessarySimpa false
set_option linter.unusedSectionVars false
set_option maxRecDepth 10000
open Go.RowKit

theorem fdiv_pow {b k : Nat} (hk : k ≤ 12) : ((b : Int)).fdiv (2 ^ min (k : Int).toNat IntKind.i64.bits) = (b : Int) / 2 ^ k := by
  have e : min (k : Int).toNat IntKind.i64.bits = k := by
    have : IntKind.i64.bits = 64 := rfl
    omega
  rw [e, Int.fdiv_eq_ediv_of_nonneg]
  exact Int.pow_nonneg (by decide)
theorem subset_ok (n b : Nat) (hn : n ≤ 12) (hb : b ≤ 1000000) : Good Try.prog TT false 44 [.int .i64 n, .int .i64 b] (· = ints (subTo b n)) := by
  refine good_of mixed tabOk Try.func44 rfl rfl Try.ntmps44 Try.results44 rfl rfl ?_
  (conv => whnf); (repeat (first | (refine arith_i ⟨by omega, by omega⟩ ?_; conv => whnf) | (refine need_i (by first | omega | (simp only [List.length_append, List.length_cons, List.length_nil]; omega)) ?_; conv => whnf) | ((with_reducible refine branch_tt ?_); conv => whnf) | ((with_reducible refine branch_ff ?_); conv => whnf) | (with_reducible refine branch_not ?_) | ((with_reducible refine slc_e ?_); conv => whnf) | ((with_reducible refine callS_a ?_); conv => whnf) | ((with_reducible refine bld_a ?_); conv => whnf) | ((with_reducible refine own_e ?_); conv => whnf)))
  refine loop_i (fun k : Nat => k ≤ n) (fun k => mkSt [(0, .int .i64 n), (1, .int .i64 b), (5, .own 5 3 1 ((subTo b k).map encI)), (6, .int .i64 k)] [] false) (fun k => n - k) 0 (Nat.zero_le _) (Le.trans (le_adopt 5 5 3 1 rfl) (le_mk ⟨rfl, rfl, rfl, rfl, trivial⟩ trivial rfl)) ?_
  intro k hk
  have hs := sub_len b k
  have L : ((subTo b k).map encI).length = (subTo b k).length := List.length_map ..
  (conv => whnf); (repeat (first | (refine arith_i ⟨by omega, by omega⟩ ?_; conv => whnf) | (refine need_i (by first | omega | (simp only [List.length_append, List.length_cons, List.length_nil]; omega)) ?_; conv => whnf) | ((with_reducible refine branch_tt ?_); conv => whnf) | ((with_reducible refine branch_ff ?_); conv => whnf) | (with_reducible refine branch_not ?_) | ((with_reducible refine slc_e ?_); conv => whnf) | ((with_reducible refine callS_a ?_); conv => whnf) | ((with_reducible refine bld_a ?_); conv => whnf) | ((with_reducible refine own_e ?_); conv => whnf)))
  refine branch_d (fun h => ?_) (fun h => ?_)
  · (conv => whnf); (repeat (first | (refine arith_i ⟨by omega, by omega⟩ ?_; conv => whnf) | (refine need_i (by first | omega | (simp only [List.length_append, List.length_cons, List.length_nil]; omega)) ?_; conv => whnf) | ((with_reducible refine branch_tt ?_); conv => whnf) | ((with_reducible refine branch_ff ?_); conv => whnf) | (with_reducible refine branch_not ?_) | ((with_reducible refine slc_e ?_); conv => whnf) | ((with_reducible refine callS_a ?_); conv => whnf) | ((with_reducible refine bld_a ?_); conv => whnf) | ((with_reducible refine own_e ?_); conv => whnf)))
    refine arith_u (by omega) ?_
    (conv => whnf); (repeat (first | (refine arith_i ⟨by omega, by omega⟩ ?_; conv => whnf) | (refine need_i (by first | omega | (simp only [List.length_append, List.length_cons, List.length_nil]; omega)) ?_; conv => whnf) | ((with_reducible refine branch_tt ?_); conv => whnf) | ((with_reducible refine branch_ff ?_); conv => whnf) | (with_reducible refine branch_not ?_) | ((with_reducible refine slc_e ?_); conv => whnf) | ((with_reducible refine callS_a ?_); conv => whnf) | ((with_reducible refine bld_a ?_); conv => whnf) | ((with_reducible refine own_e ?_); conv => whnf)))
    refine branch_i (fun h1 => ?_) (fun h1 => ?_)
    · rw [fdiv_pow (by omega)] at h1
      have h2 : b.testBit k = true := (bit_test b k hb).symm.trans h1
      (conv => whnf); (repeat (first | (refine arith_i ⟨by omega, by omega⟩ ?_; conv => whnf) | (refine need_i (by first | omega | (simp only [List.length_append, List.length_cons, List.length_nil]; omega)) ?_; conv => whnf) | ((with_reducible refine branch_tt ?_); conv => whnf) | ((with_reducible refine branch_ff ?_); conv => whnf) | (with_reducible refine branch_not ?_) | ((with_reducible refine slc_e ?_); conv => whnf) | ((with_reducible refine callS_a ?_); conv => whnf) | ((with_reducible refine bld_a ?_); conv => whnf) | ((with_reducible refine own_e ?_); conv => whnf)))
      exact ⟨k + 1, by omega, le_mk ⟨rfl, rfl, (own_snoc (enc := encI) (k : Int)).trans (by rw [subTo, if_pos h2]; rfl), rfl, trivial⟩ trivial rfl, by omega⟩
    · rw [fdiv_pow (by omega)] at h1
      have h2 : b.testBit k = false := (bit_test b k hb).symm.trans h1
      (conv => whnf); (repeat (first | (refine arith_i ⟨by omega, by omega⟩ ?_; conv => whnf) | (refine need_i (by first | omega | (simp only [List.length_append, List.length_cons, List.length_nil]; omega)) ?_; conv => whnf) | ((with_reducible refine branch_tt ?_); conv => whnf) | ((with_reducible refine branch_ff ?_); conv => whnf) | (with_reducible refine branch_not ?_) | ((with_reducible refine slc_e ?_); conv => whnf) | ((with_reducible refine callS_a ?_); conv => whnf) | ((with_reducible refine bld_a ?_); conv => whnf) | ((with_reducible refine own_e ?_); conv => whnf)))
      exact ⟨k + 1, by omega, le_mk ⟨rfl, rfl, by rw [subTo, h2]; rfl, rfl, trivial⟩ trivial rfl, by omega⟩
  · (conv => whnf); (repeat (first | (refine arith_i ⟨by omega, by omega⟩ ?_; conv => whnf) | (refine need_i (by first | omega | (simp only [List.length_append, List.length_cons, List.length_nil]; omega)) ?_; conv => whnf) | ((with_reducible refine branch_tt ?_); conv => whnf) | ((with_reducible refine branch_ff ?_); conv => whnf) | (with_reducible refine branch_not ?_) | ((with_reducible refine slc_e ?_); conv => whnf) | ((with_reducible refine callS_a ?_); conv => whnf) | ((with_reducible refine bld_a ?_); conv => whnf) | ((with_reducible refine own_e ?_); conv => whnf)))
    have : k = n := by omega
    subst this
    exact ret_ol rfl
theorem shl_pow {n N : Nat} (hn : n ≤ 12) (hN : N = 2 ^ n) : (1 : Int) * 2 ^ (min (n : Int).toNat IntKind.i64.bits) = (N : Int) := by
  have e : min (n : Int).toNat IntKind.i64.bits = n := by
    have : IntKind.i64.bits = 64 := rfl
    omega
  rw [e, hN]; simp
theorem progG_valid {m : Int} {P : Prog} (h : ProgG m P) (hm : m ≤ 12) : validB P = true := by
  have hl := h.len
  have h1 : P.costs.all costB = true := List.all_eq_true.2 fun x hx => by
    have := h.cost x hx
    simp only [costL, List.mem_cons, List.not_mem_nil, or_false] at this
    rw [costB_iff]; omega
  have h2 : P.rows.all (rowB P.costs.length) = true := List.all_eq_true.2 fun r hr => by
    obtain ⟨a, b, c, d⟩ := h.row r hr
    have e : validCoefsB r.coefs = true := List.all_eq_true.2 fun x hx => by
      have := b x hx
      simp only [coefL, List.mem_cons, List.not_mem_nil, or_false] at this
      rw [coefB_iff]; omega
    have e1 : boundB r.least = true := boundB_iff.2 (by omega)
    have e2 : boundB r.most = true := boundB_iff.2 (by omega)
    simp [rowB, a, e, e1, e2]
  have := h.rows
  simp only [validB, h1, h2, Bool.and_true, Bool.and_eq_true, decide_eq_true_eq]
  omega
end Go.Proofs.Ytbjbhokkdnhfeaa
