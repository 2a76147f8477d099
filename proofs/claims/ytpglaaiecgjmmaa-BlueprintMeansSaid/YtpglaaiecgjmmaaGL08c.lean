/- Layer 8 by the interpreter: Has, complete, Sum, Subset. -/
import Derived.Test.YtpglaaiecgjmmaaGL08b2
import Derived.Test.YtpglaaiecgjmmaaGL00
namespace Go.Proofs.Ytpglaaiecgjmmaa
set_option linter.unusedVariables false
set_option linter.unusedSimpArgs false
set_option linter.unnecessarySimpa false
set_option linter.unusedSectionVars false
set_option maxRecDepth 10000
open Go.RowKit

theorem sum_ok (vs ch : List Int) (hl : ch.length ≤ 1000000) (hv : ∀ i, i < vs.length → -10000 ≤ nth vs i ∧ nth vs i ≤ 10000) (hc : ∀ i, i < ch.length → 0 ≤ nth ch i ∧ nth ch i < vs.length) : Good Try.prog TT false 73 [ints vs, ints ch] (· = .int .i64 (sumOf vs ch)) := by
  have L : (ch.map encI).length = ch.length := List.length_map ..
  have LV : (vs.map encI).length = vs.length := List.length_map ..
  refine good_of mixed tabOk Try.func73 rfl rfl Try.ntmps73 Try.results73 rfl rfl ?_
  (conv => whnf); (repeat (first | (refine arith_i ⟨by omega, by omega⟩ ?_; conv => whnf) | (refine need_i (by first | omega | (simp only [List.length_append, List.length_cons, List.length_nil]; omega)) ?_; conv => whnf) | ((with_reducible refine branch_tt ?_); conv => whnf) | ((with_reducible refine branch_ff ?_); conv => whnf) | (with_reducible refine branch_not ?_) | ((with_reducible refine slc_e ?_); conv => whnf) | ((with_reducible refine callS_a ?_); conv => whnf) | ((with_reducible refine own_e ?_); conv => whnf)))
  refine loop_i (fun k : Nat => k ≤ ch.length) (fun k => mkSt [(0, ints vs), (1, ints ch), (5, .int .i64 (sumTo vs ch k)), (6, .int .i64 k)] [] false) (fun k => ch.length - k) 0 (Nat.zero_le _) (le_mk ⟨rfl, rfl, rfl, rfl, trivial⟩ trivial rfl) ?_
  intro k hk
  have bd := sumTo_bd (vs := vs) (ch := ch) (n := vs.length) hv k (fun i hi => hc i (by omega))
  (conv => whnf); (repeat (first | (refine arith_i ⟨by omega, by omega⟩ ?_; conv => whnf) | (refine need_i (by first | omega | (simp only [List.length_append, List.length_cons, List.length_nil]; omega)) ?_; conv => whnf) | ((with_reducible refine branch_tt ?_); conv => whnf) | ((with_reducible refine branch_ff ?_); conv => whnf) | (with_reducible refine branch_not ?_) | ((with_reducible refine slc_e ?_); conv => whnf) | ((with_reducible refine callS_a ?_); conv => whnf) | ((with_reducible refine own_e ?_); conv => whnf)))
  refine branch_d (fun h => ?_) (fun h => ?_)
  · (conv => whnf); (repeat (first | (refine arith_i ⟨by omega, by omega⟩ ?_; conv => whnf) | (refine need_i (by first | omega | (simp only [List.length_append, List.length_cons, List.length_nil]; omega)) ?_; conv => whnf) | ((with_reducible refine branch_tt ?_); conv => whnf) | ((with_reducible refine branch_ff ?_); conv => whnf) | (with_reducible refine branch_not ?_) | ((with_reducible refine slc_e ?_); conv => whnf) | ((with_reducible refine callS_a ?_); conv => whnf) | ((with_reducible refine own_e ?_); conv => whnf)))
    refine idx_m (by omega) (by omega) fun y hy => ?_
    rw [Int.toNat_natCast] at hy
    have hn := nth_eq hy
    have h1 := hc k (by omega)
    rw [hn] at h1
    (conv => whnf); (repeat (first | (refine arith_i ⟨by omega, by omega⟩ ?_; conv => whnf) | (refine need_i (by first | omega | (simp only [List.length_append, List.length_cons, List.length_nil]; omega)) ?_; conv => whnf) | ((with_reducible refine branch_tt ?_); conv => whnf) | ((with_reducible refine branch_ff ?_); conv => whnf) | (with_reducible refine branch_not ?_) | ((with_reducible refine slc_e ?_); conv => whnf) | ((with_reducible refine callS_a ?_); conv => whnf) | ((with_reducible refine own_e ?_); conv => whnf)))
    refine idx_m (by omega) (by omega) fun z hz => ?_
    have hz' := nth_eq hz
    have h2 := hv y.toNat (by omega)
    rw [hz'] at h2
    (conv => whnf); (repeat (first | (refine arith_i ⟨by omega, by omega⟩ ?_; conv => whnf) | (refine need_i (by first | omega | (simp only [List.length_append, List.length_cons, List.length_nil]; omega)) ?_; conv => whnf) | ((with_reducible refine branch_tt ?_); conv => whnf) | ((with_reducible refine branch_ff ?_); conv => whnf) | (with_reducible refine branch_not ?_) | ((with_reducible refine slc_e ?_); conv => whnf) | ((with_reducible refine callS_a ?_); conv => whnf) | ((with_reducible refine own_e ?_); conv => whnf)))
    exact ⟨k + 1, by omega, le_mk ⟨rfl, rfl, int_eq (by rw [sumTo, hn, hz']), rfl, trivial⟩ trivial rfl, by omega⟩
  · (conv => whnf); (repeat (first | (refine arith_i ⟨by omega, by omega⟩ ?_; conv => whnf) | (refine need_i (by first | omega | (simp only [List.length_append, List.length_cons, List.length_nil]; omega)) ?_; conv => whnf) | ((with_reducible refine branch_tt ?_); conv => whnf) | ((with_reducible refine branch_ff ?_); conv => whnf) | (with_reducible refine branch_not ?_) | ((with_reducible refine slc_e ?_); conv => whnf) | ((with_reducible refine callS_a ?_); conv => whnf) | ((with_reducible refine own_e ?_); conv => whnf)))
    exact ret_p rfl (int_eq (by rw [sumOf]; congr 1; omega))
theorem own_snoc {α : Type} {enc : α → List AV} {t e z : Nat} {xs : List α} (x : α) : AV.own t e z (xs.map enc ++ [enc x]) = .own t e z ((xs ++ [x]).map enc) := by simp
theorem fdiv_pow {b k : Nat} (hk : k ≤ 12) : ((b : Int)).fdiv (2 ^ min (k : Int).toNat IntKind.i64.bits) = (b : Int) / 2 ^ k := by
  have e : min (k : Int).toNat IntKind.i64.bits = k := by
    have : IntKind.i64.bits = 64 := rfl
    omega
  rw [e, Int.fdiv_eq_ediv_of_nonneg]
  exact Int.pow_nonneg (by decide)
theorem subset_ok (n b : Nat) (hn : n ≤ 12) (hb : b ≤ 1000000) : Good Try.prog TT false 38 [.int .i64 n, .int .i64 b] (· = ints (subTo b n)) := by
  refine good_of mixed tabOk Try.func38 rfl rfl Try.ntmps38 Try.results38 rfl rfl ?_
  (conv => whnf); (repeat (first | (refine arith_i ⟨by omega, by omega⟩ ?_; conv => whnf) | (refine need_i (by first | omega | (simp only [List.length_append, List.length_cons, List.length_nil]; omega)) ?_; conv => whnf) | ((with_reducible refine branch_tt ?_); conv => whnf) | ((with_reducible refine branch_ff ?_); conv => whnf) | (with_reducible refine branch_not ?_) | ((with_reducible refine slc_e ?_); conv => whnf) | ((with_reducible refine callS_a ?_); conv => whnf) | ((with_reducible refine own_e ?_); conv => whnf)))
  refine loop_i (fun k : Nat => k ≤ n) (fun k => mkSt [(0, .int .i64 n), (1, .int .i64 b), (5, .own 5 3 1 ((subTo b k).map encI)), (6, .int .i64 k)] [] false) (fun k => n - k) 0 (Nat.zero_le _) (Le.trans (le_adopt 5 5 3 1 rfl) (le_mk ⟨rfl, rfl, rfl, rfl, trivial⟩ trivial rfl)) ?_
  intro k hk
  have hs := sub_len b k
  have L : ((subTo b k).map encI).length = (subTo b k).length := List.length_map ..
  (conv => whnf); (repeat (first | (refine arith_i ⟨by omega, by omega⟩ ?_; conv => whnf) | (refine need_i (by first | omega | (simp only [List.length_append, List.length_cons, List.length_nil]; omega)) ?_; conv => whnf) | ((with_reducible refine branch_tt ?_); conv => whnf) | ((with_reducible refine branch_ff ?_); conv => whnf) | (with_reducible refine branch_not ?_) | ((with_reducible refine slc_e ?_); conv => whnf) | ((with_reducible refine callS_a ?_); conv => whnf) | ((with_reducible refine own_e ?_); conv => whnf)))
  refine branch_d (fun h => ?_) (fun h => ?_)
  · (conv => whnf); (repeat (first | (refine arith_i ⟨by omega, by omega⟩ ?_; conv => whnf) | (refine need_i (by first | omega | (simp only [List.length_append, List.length_cons, List.length_nil]; omega)) ?_; conv => whnf) | ((with_reducible refine branch_tt ?_); conv => whnf) | ((with_reducible refine branch_ff ?_); conv => whnf) | (with_reducible refine branch_not ?_) | ((with_reducible refine slc_e ?_); conv => whnf) | ((with_reducible refine callS_a ?_); conv => whnf) | ((with_reducible refine own_e ?_); conv => whnf)))
    refine arith_u (by omega) ?_
    (conv => whnf); (repeat (first | (refine arith_i ⟨by omega, by omega⟩ ?_; conv => whnf) | (refine need_i (by first | omega | (simp only [List.length_append, List.length_cons, List.length_nil]; omega)) ?_; conv => whnf) | ((with_reducible refine branch_tt ?_); conv => whnf) | ((with_reducible refine branch_ff ?_); conv => whnf) | (with_reducible refine branch_not ?_) | ((with_reducible refine slc_e ?_); conv => whnf) | ((with_reducible refine callS_a ?_); conv => whnf) | ((with_reducible refine own_e ?_); conv => whnf)))
    refine branch_i (fun h1 => ?_) (fun h1 => ?_)
    · rw [fdiv_pow (by omega)] at h1
      have h2 : b.testBit k = true := (bit_test b k hb).symm.trans h1
      (conv => whnf); (repeat (first | (refine arith_i ⟨by omega, by omega⟩ ?_; conv => whnf) | (refine need_i (by first | omega | (simp only [List.length_append, List.length_cons, List.length_nil]; omega)) ?_; conv => whnf) | ((with_reducible refine branch_tt ?_); conv => whnf) | ((with_reducible refine branch_ff ?_); conv => whnf) | (with_reducible refine branch_not ?_) | ((with_reducible refine slc_e ?_); conv => whnf) | ((with_reducible refine callS_a ?_); conv => whnf) | ((with_reducible refine own_e ?_); conv => whnf)))
      exact ⟨k + 1, by omega, le_mk ⟨rfl, rfl, (own_snoc (enc := encI) (k : Int)).trans (by rw [subTo, if_pos h2]; rfl), rfl, trivial⟩ trivial rfl, by omega⟩
    · rw [fdiv_pow (by omega)] at h1
      have h2 : b.testBit k = false := (bit_test b k hb).symm.trans h1
      (conv => whnf); (repeat (first | (refine arith_i ⟨by omega, by omega⟩ ?_; conv => whnf) | (refine need_i (by first | omega | (simp only [List.length_append, List.length_cons, List.length_nil]; omega)) ?_; conv => whnf) | ((with_reducible refine branch_tt ?_); conv => whnf) | ((with_reducible refine branch_ff ?_); conv => whnf) | (with_reducible refine branch_not ?_) | ((with_reducible refine slc_e ?_); conv => whnf) | ((with_reducible refine callS_a ?_); conv => whnf) | ((with_reducible refine own_e ?_); conv => whnf)))
      exact ⟨k + 1, by omega, le_mk ⟨rfl, rfl, by rw [subTo, h2]; rfl, rfl, trivial⟩ trivial rfl, by omega⟩
  · (conv => whnf); (repeat (first | (refine arith_i ⟨by omega, by omega⟩ ?_; conv => whnf) | (refine need_i (by first | omega | (simp only [List.length_append, List.length_cons, List.length_nil]; omega)) ?_; conv => whnf) | ((with_reducible refine branch_tt ?_); conv => whnf) | ((with_reducible refine branch_ff ?_); conv => whnf) | (with_reducible refine branch_not ?_) | ((with_reducible refine slc_e ?_); conv => whnf) | ((with_reducible refine callS_a ?_); conv => whnf) | ((with_reducible refine own_e ?_); conv => whnf)))
    have : k = n := by omega
    subst this
    exact ret_ol rfl
end Go.Proofs.Ytpglaaiecgjmmaa
