/- slices.Repeat, bits.Mul with small numbers. -/
import Derived.Test.YtbjbhokkdnhfeaaGA

namespace Go.Proofs.Ytbjbhokkdnhfeaa
set_option linter.unusedVariables false
set_option linter.unusedSimpArgs false
set_option linter.unnecessarySimpa false
set_option linter.unusedSectionVars false
set_option maxRecDepth 10000
open Go.RowKit
def plGL09rep_0 : Plan := (.take 0 (.take 1 (.take 2 (.take 4 (.take 5 (.alt 3 (.alt 6 (.alt 7 (.take 8 (.take 9 .done)) .stop) .stop) (.alt 6 (.alt 3 (.alt 7 (.take 8 (.take 9 .done)) .stop) .stop) .stop)))))))
theorem and_mask {n : Int} (h : 0 ≤ n ∧ n ≤ 1000) : IntKind.wrap .u64 ((BitVec.ofInt IntKind.u64.bits n &&& BitVec.ofInt IntKind.u64.bits 4294967295).toNat : Int) = n := by
  obtain ⟨m, rfl⟩ : ∃ m : Nat, n = m := ⟨n.toNat, by omega⟩
  have hm : m ≤ 1000 := by omega
  have e1 : (BitVec.ofInt IntKind.u64.bits (m : Int)).toNat = m := by
    show (BitVec.ofInt 64 (m : Int)).toNat = m
    rw [BitVec.toNat_ofInt]; omega
  have e2 : (BitVec.ofInt IntKind.u64.bits 4294967295).toNat = 2 ^ 32 - 1 := by decide
  rw [BitVec.toNat_and, e1, e2, Nat.and_two_pow_sub_one_eq_mod, Nat.mod_eq_of_lt (by omega)]
  show ((m : Int) % 18446744073709551616) = m
  omega
theorem shr32 {n : Int} (h : 0 ≤ n ∧ n ≤ 1000) : n.fdiv (2 ^ min (32 : Int).toNat IntKind.u64.bits) = 0 := by
  show n.fdiv 4294967296 = 0
  rw [Int.fdiv_eq_ediv_of_nonneg _ (by omega)]
  omega
theorem mul64_ok (n : Int) (h : 0 ≤ n ∧ n ≤ 1000) : Good Try.prog TT false 66 [.int .u64 1, .int .u64 n] (· = .tup [.int .u64 0, .int .u64 n]) := by
  have a1 := and_mask (n := 1) (by omega)
  have a0 := and_mask (n := 0) (by omega)
  have an := and_mask h
  have s1 := shr32 (n := 1) (by omega)
  have s0 := shr32 (n := 0) (by omega)
  have sn := shr32 h
  refine good_of mixed tabOk Try.func66 rfl rfl Try.ntmps66 Try.results66 rfl rfl ?_
  (conv => whnf); (repeat' (first | (refine arith_i ⟨by omega, by omega⟩ ?_; conv => whnf) | (refine arith_u ⟨by omega, by omega⟩ ?_; conv => whnf) | (refine arith_8 ⟨by omega, by omega⟩ ?_; conv => whnf) | (refine need_i (by first | omega | (simp only [List.length_append, List.length_cons, List.length_nil, List.length_map, List.length_replicate, List.length_modify]; omega)) ?_; conv => whnf) | ((with_reducible refine branch_tt ?_); conv => whnf) | ((with_reducible refine branch_ff ?_); conv => whnf) | (with_reducible refine branch_not ?_) | ((simp only [a1, a0, an, s1, s0, sn, Int.one_mul, Int.zero_mul, Int.mul_zero, Int.add_zero, Int.zero_add]); conv => whnf) | ((with_reducible refine slc_e ?_); conv => whnf) | ((with_reducible refine callS_a ?_); conv => whnf) | ((with_reducible refine bld_a ?_); conv => whnf) | ((with_reducible refine own_e ?_); conv => whnf) | ((with_reducible refine branch_d (fun hq => ?_) (fun hq => ?_)) <;> (try (exfalso; omega)) <;> (conv => whnf)) | ((with_reducible refine branch_e (fun hq => ?_) (fun hq => ?_)) <;> (try (exfalso; omega)) <;> (conv => whnf)) | ((with_reducible refine branch_n (fun hq => ?_) (fun hq => ?_)) <;> (try (exfalso; omega)) <;> (conv => whnf)) | ((with_reducible refine branch_i (fun hq => ?_) (fun hq => ?_)) <;> (try (exfalso; omega)) <;> (conv => whnf))))
  exact ret_t (rs := [.int .u64 0, .int .u64 n]) ⟨(rc_p rfl).g, (rc_p rfl).g, trivial⟩ rfl
theorem mul_ok (n : Int) (h : 0 ≤ n ∧ n ≤ 1000) : Good Try.prog TT false 53 [.int .u64 1, .int .u64 n] (· = .tup [.int .u64 0, .int .u64 n]) := by
  refine good_of mixed tabOk Try.func53 rfl rfl Try.ntmps53 Try.results53 rfl rfl ?_
  (conv => whnf); (repeat' (first | (refine arith_i ⟨by omega, by omega⟩ ?_; conv => whnf) | (refine arith_u ⟨by omega, by omega⟩ ?_; conv => whnf) | (refine arith_8 ⟨by omega, by omega⟩ ?_; conv => whnf) | (refine need_i (by first | omega | (simp only [List.length_append, List.length_cons, List.length_nil, List.length_map, List.length_replicate, List.length_modify]; omega)) ?_; conv => whnf) | ((with_reducible refine branch_tt ?_); conv => whnf) | ((with_reducible refine branch_ff ?_); conv => whnf) | (with_reducible refine branch_not ?_) | ((refine call_e (mul64_ok n h) ?_); conv => whnf) | ((with_reducible refine slc_e ?_); conv => whnf) | ((with_reducible refine callS_a ?_); conv => whnf) | ((with_reducible refine bld_a ?_); conv => whnf) | ((with_reducible refine own_e ?_); conv => whnf) | ((with_reducible refine branch_d (fun hq => ?_) (fun hq => ?_)) <;> (try (exfalso; omega)) <;> (conv => whnf)) | ((with_reducible refine branch_e (fun hq => ?_) (fun hq => ?_)) <;> (try (exfalso; omega)) <;> (conv => whnf)) | ((with_reducible refine branch_n (fun hq => ?_) (fun hq => ?_)) <;> (try (exfalso; omega)) <;> (conv => whnf)) | ((with_reducible refine branch_i (fun hq => ?_) (fun hq => ?_)) <;> (try (exfalso; omega)) <;> (conv => whnf))))
  exact ret_t (rs := [.int .u64 0, .int .u64 n]) ⟨(rc_p rfl).g, (rc_p rfl).g, trivial⟩ rfl
def repC (k n : Nat) : List (List AV) := List.replicate k [AV.int .i64 (-1)] ++ List.replicate (n - k) [AV.int .i64 0]
theorem repC_len {k n : Nat} (h : k ≤ n) : (repC k n).length = n := by simp [repC]; omega
theorem repC_take {k n : Nat} : (repC k n).take k = List.replicate k [AV.int .i64 (-1)] := by simp [repC]
theorem repC_spl {k n m : Nat} (h : k + m ≤ n) (hm : m ≤ k) : spl (repC k n) k ((List.replicate k [AV.int .i64 (-1)]).take m) = repC (k + m) n := by
  have e1 : (List.replicate k [AV.int .i64 (-1)]).take m = List.replicate m [AV.int .i64 (-1)] := by rw [List.take_replicate, Nat.min_eq_left hm]
  have e2 : (repC k n).drop (k + m) = List.replicate (n - (k + m)) [AV.int .i64 0] := by
    rw [repC, List.drop_append, List.length_replicate, List.drop_of_length_le (by simp), List.nil_append, List.drop_replicate]
    congr 1
    omega
  rw [spl, repC_take, e1, List.length_replicate, e2, ← List.append_assoc, List.replicate_append_replicate]
  rfl
theorem repC_first {n : Nat} (h : 0 < n) : spl (List.replicate n [AV.int .i64 0]) 0 ([[AV.int .i64 (-1)]].take n) = repC 1 n := by
  obtain ⟨m, rfl⟩ : ∃ m, n = m + 1 := ⟨n - 1, by omega⟩
  simp [spl, repC, List.replicate_succ]
theorem sub_lo {k n : Nat} {K : List (List AV) → Prop} (h : k ≤ n) (hK : K (List.replicate (n - k) [AV.int .i64 0])) : sub (repC k n) (k : Int) ((repC k n).length : Int) K := by
  have L := repC_len h
  refine sub_i ⟨by omega, by omega, by omega⟩ ?_
  have e : ((repC k n).take ((repC k n).length : Int).toNat).drop (k : Int).toNat = List.replicate (n - k) [AV.int .i64 0] := by
    rw [Int.toNat_natCast, Int.toNat_natCast, List.take_length, repC, List.drop_append]; simp
  rw [e]; exact hK
theorem sub_hi {k n : Nat} {K : List (List AV) → Prop} (h : k ≤ n) (hK : K (List.replicate k [AV.int .i64 (-1)])) : sub (repC k n) 0 (k : Int) K := by
  have L := repC_len h
  refine sub_i ⟨by omega, by omega, by omega⟩ ?_
  have e : ((repC k n).take (k : Int).toNat).drop (0 : Int).toNat = List.replicate k [AV.int .i64 (-1)] := by
    rw [Int.toNat_natCast, repC_take]; simp
  rw [e]; exact hK
theorem repC_full (n : Nat) : repC n n = (List.replicate n (-1 : Int)).map encI := by simp [repC, encI]
theorem repeat_ok (n : Nat) (hn : n ≤ 12) : Good Try.prog TT false 29 [ints [-1], .int .i64 n] (· = .own 0 3 1 ((List.replicate n (-1 : Int)).map encI)) := by
  have L1 : (List.map encI [-1]).length = 1 := rfl
  have LR : (List.replicate (n : Int).toNat [AV.int .i64 0]).length = n := by simp
  have eN : (n : Int).toNat = n := by omega
  refine good_of mixed tabOk Try.func29 rfl rfl Try.ntmps29 Try.results29 rfl rfl ?_
  (conv => whnf); (repeat' (first | (refine arith_i ⟨by omega, by omega⟩ ?_; conv => whnf) | (refine arith_u ⟨by omega, by omega⟩ ?_; conv => whnf) | (refine arith_8 ⟨by omega, by omega⟩ ?_; conv => whnf) | (refine need_i (by first | omega | (simp only [List.length_append, List.length_cons, List.length_nil, List.length_map, List.length_replicate, List.length_modify]; omega)) ?_; conv => whnf) | ((with_reducible refine branch_tt ?_); conv => whnf) | ((with_reducible refine branch_ff ?_); conv => whnf) | (with_reducible refine branch_not ?_) | ((refine call_e (mul_ok n (by omega)) ?_); conv => whnf) | ((with_reducible refine slc_e ?_); conv => whnf) | ((with_reducible refine callS_a ?_); conv => whnf) | ((with_reducible refine bld_a ?_); conv => whnf) | ((with_reducible refine own_e ?_); conv => whnf) | (refine draw_i 10 plGL09rep_0 (by decide +kernel) ?_; (conv => whnf); fail_if_success (guard_target =~ False)) | ((with_reducible refine And.intro ?_ ?_) <;> (conv => whnf)) | (with_reducible exact trivial) | ((with_reducible refine branch_d (fun hq => ?_) (fun hq => ?_)) <;> (try (exfalso; omega)) <;> (conv => whnf)) | ((with_reducible refine branch_e (fun hq => ?_) (fun hq => ?_)) <;> (try (exfalso; omega)) <;> (conv => whnf)) | ((with_reducible refine branch_n (fun hq => ?_) (fun hq => ?_)) <;> (try (exfalso; omega)) <;> (conv => whnf)) | ((with_reducible refine branch_i (fun hq => ?_) (fun hq => ?_)) <;> (try (exfalso; omega)) <;> (conv => whnf))))
  · refine loop_i (fun k : Nat => 1 ≤ k ∧ k ≤ n) (fun k => mkSt [(7, .own 30 3 1 (repC k n)), (8, .int .i64 k)] [] false) (fun k => n - k) 1 ⟨by omega, by omega⟩ (le_mk ⟨?_, int_eq (by rw [L1, LR]; omega), trivial⟩ trivial rfl) ?_
    · rw [← repC_first (by omega)]
      conv => rhs; rw [← eN]
      show AV.own 30 3 1 (spl (List.replicate (n : Int).toNat [AV.int .i64 0]) 0 ((List.map encI [-1]).take (List.replicate (n : Int).toNat [AV.int .i64 0]).length)) = _
      rw [LR, eN]; rfl
    rintro k ⟨h1, h2⟩
    have LC := repC_len h2
    have LZ : (List.replicate (n - k) [AV.int .i64 0]).length = n - k := by simp
    have LA : (List.replicate k [AV.int .i64 (-1)]).length = k := by simp
    (conv => whnf); (repeat' (first | (refine arith_i ⟨by omega, by omega⟩ ?_; conv => whnf) | (refine arith_u ⟨by omega, by omega⟩ ?_; conv => whnf) | (refine arith_8 ⟨by omega, by omega⟩ ?_; conv => whnf) | (refine need_i (by first | omega | (simp only [List.length_append, List.length_cons, List.length_nil, List.length_map, List.length_replicate, List.length_modify]; omega)) ?_; conv => whnf) | ((with_reducible refine branch_tt ?_); conv => whnf) | ((with_reducible refine branch_ff ?_); conv => whnf) | (with_reducible refine branch_not ?_) | ((refine slc_w ?_); conv => whnf) | ((refine sub_lo h2 ?_); conv => whnf) | ((refine sub_hi h2 ?_); conv => whnf) | ((with_reducible refine slc_e ?_); conv => whnf) | ((with_reducible refine callS_a ?_); conv => whnf) | ((with_reducible refine bld_a ?_); conv => whnf) | ((with_reducible refine own_e ?_); conv => whnf) | (refine draw_i 10 plGL09rep_0 (by decide +kernel) ?_; (conv => whnf); fail_if_success (guard_target =~ False)) | ((with_reducible refine And.intro ?_ ?_) <;> (conv => whnf)) | (with_reducible exact trivial) | ((with_reducible refine branch_d (fun hq => ?_) (fun hq => ?_)) <;> (try (exfalso; omega)) <;> (conv => whnf)) | ((with_reducible refine branch_e (fun hq => ?_) (fun hq => ?_)) <;> (try (exfalso; omega)) <;> (conv => whnf)) | ((with_reducible refine branch_n (fun hq => ?_) (fun hq => ?_)) <;> (try (exfalso; omega)) <;> (conv => whnf)) | ((with_reducible refine branch_i (fun hq => ?_) (fun hq => ?_)) <;> (try (exfalso; omega)) <;> (conv => whnf))))
    all_goals first
      | (refine ⟨k + min k (n - k), ⟨by omega, by omega⟩, le_mk ⟨?_, int_eq (by rw [LZ, LA]; omega), trivial⟩ trivial rfl, by omega⟩
         rw [← repC_spl (m := min k (n - k)) (by omega) (by omega)]
         show AV.own 30 3 1 (spl (repC k n) (k : Int).toNat ((List.replicate k [AV.int .i64 (-1)]).take (List.replicate (n - k) [AV.int .i64 0]).length)) = _
         rw [LZ, Int.toNat_natCast, show (List.replicate k [AV.int .i64 (-1)]).take (n - k) = (List.replicate k [AV.int .i64 (-1)]).take (min k (n - k)) by rw [List.take_replicate, List.take_replicate]; congr 1; omega])
      | (have hk : k = n := by omega
         subst hk
         exact ret_o (by rw [repC_full]))
  · have h0 : n = 0 := by omega
    subst h0
    refine loop_i (fun _ : Unit => True) (fun _ => mkSt [(7, .own 30 3 1 []), (8, .int .i64 0)] [] false) (fun _ => 0) () trivial (le_mk (by repeat' (first | exact trivial | rfl | apply And.intro)) (by repeat' (first | exact trivial | rfl | apply And.intro)) rfl) ?_
    intro _ _
    have L0 : ([] : List (List AV)).length = 0 := rfl
    (conv => whnf); (repeat' (first | (refine arith_i ⟨by omega, by omega⟩ ?_; conv => whnf) | (refine arith_u ⟨by omega, by omega⟩ ?_; conv => whnf) | (refine arith_8 ⟨by omega, by omega⟩ ?_; conv => whnf) | (refine need_i (by first | omega | (simp only [List.length_append, List.length_cons, List.length_nil, List.length_map, List.length_replicate, List.length_modify]; omega)) ?_; conv => whnf) | ((with_reducible refine branch_tt ?_); conv => whnf) | ((with_reducible refine branch_ff ?_); conv => whnf) | (with_reducible refine branch_not ?_) | ((with_reducible refine slc_e ?_); conv => whnf) | ((with_reducible refine callS_a ?_); conv => whnf) | ((with_reducible refine bld_a ?_); conv => whnf) | ((with_reducible refine own_e ?_); conv => whnf) | (refine draw_i 10 plGL09rep_0 (by decide +kernel) ?_; (conv => whnf); fail_if_success (guard_target =~ False)) | ((with_reducible refine And.intro ?_ ?_) <;> (conv => whnf)) | (with_reducible exact trivial) | ((with_reducible refine branch_d (fun hq => ?_) (fun hq => ?_)) <;> (try (exfalso; omega)) <;> (conv => whnf)) | ((with_reducible refine branch_e (fun hq => ?_) (fun hq => ?_)) <;> (try (exfalso; omega)) <;> (conv => whnf)) | ((with_reducible refine branch_n (fun hq => ?_) (fun hq => ?_)) <;> (try (exfalso; omega)) <;> (conv => whnf)) | ((with_reducible refine branch_i (fun hq => ?_) (fun hq => ?_)) <;> (try (exfalso; omega)) <;> (conv => whnf))))
    exact ret_o rfl
end Go.Proofs.Ytbjbhokkdnhfeaa
