/- Layer 5: the law SyllabusWhole: the shares of all components add up to one. -/
import Derived.Test.YtkmagoljpfpgmaaGL05p
import Derived.Test.YtkmagoljpfpgmaaGA
namespace Go.Proofs.Ytkmagoljpfpgmaa
set_option linter.unusedVariables false
set_option linter.unusedSimpArgs false
set_option linter.unnecessarySimpa false
set_option linter.unusedSectionVars false
set_option maxRecDepth 10000
open Go.RowKit
def plGL05x_0 : Plan := (.take 0 (.take 1 (.take 2 (.take 3 (.take 4 (.take 5 (.alt 6 (.take 7 (.alt 8 .done .stop)) .stop)))))))
def plGL05x_1 : Plan := (.take 0 (.take 2 (.take 4 (.alt 1 (.alt 3 (.alt 5 (.alt 6 (.take 7 (.alt 8 .done .stop)) .stop) .stop) (.alt 5 (.alt 3 (.alt 6 (.take 7 (.alt 8 .done .stop)) .stop) .stop) .stop)) (.alt 3 (.alt 1 (.alt 5 (.alt 6 (.take 7 (.alt 8 .done .stop)) .stop) .stop) (.alt 5 (.alt 1 (.alt 6 (.take 7 (.alt 8 .done .stop)) .stop) (.alt 6 (.alt 1 (.take 7 (.alt 8 .done .stop)) .stop) .stop)) .stop)) (.alt 5 (.alt 1 (.alt 3 (.alt 6 (.take 7 (.alt 8 .done .stop)) .stop) .stop) (.alt 3 (.alt 1 (.alt 6 (.take 7 (.alt 8 .done .stop)) .stop) (.alt 6 (.alt 1 (.take 7 (.alt 8 .done .stop)) .stop) .stop)) .stop)) .stop))))))
def plGL05x_2 : Plan := (.take 0 (.take 2 (.take 4 (.alt 1 (.alt 3 (.alt 5 (.altM 6 (.take 7 (.alt 8 .done .stop)) .stop) .stop) (.alt 5 (.alt 3 (.altM 6 (.take 7 (.alt 8 .done .stop)) .stop) .stop) .stop)) (.alt 3 (.alt 1 (.alt 5 (.altM 6 (.take 7 (.alt 8 .done .stop)) .stop) .stop) (.alt 5 (.alt 1 (.altM 6 (.take 7 (.alt 8 .done .stop)) .stop) (.altM 6 (.alt 1 (.take 7 (.alt 8 .done .stop)) .stop) .stop)) .stop)) (.alt 5 (.alt 1 (.alt 3 (.altM 6 (.take 7 (.alt 8 .done .stop)) .stop) .stop) (.alt 3 (.alt 1 (.altM 6 (.take 7 (.alt 8 .done .stop)) .stop) (.altM 6 (.alt 1 (.take 7 (.alt 8 .done .stop)) .stop) .stop)) .stop)) .stop))))))
def plGL05x_3 : Plan := (.take 0 (.take 1 (.take 3 (.take 4 (.take 5 (.alt 2 (.alt 6 (.take 7 (.take 8 .done)) .stop) .stop))))))
def plGL05x_4 : Plan := (.take 0 (.take 3 (.alt 1 (.alt 2 (.alt 4 (.take 5 (.alt 6 (.take 7 (.take 8 .done)) .stop)) .stop) (.alt 4 (.take 5 (.alt 2 (.alt 6 (.take 7 (.take 8 .done)) .stop) .stop)) .stop)) (.alt 4 (.take 5 (.alt 1 (.alt 2 (.alt 6 (.take 7 (.take 8 .done)) .stop) .stop) .stop)) .stop))))
def plGL05x_5 : Plan := (.take 0 (.take 3 (.alt 1 (.altM 2 (.alt 4 (.take 5 (.altM 6 (.take 7 (.take 8 .done)) .stop)) .stop) (.alt 4 (.take 5 (.altM 2 (.altM 6 (.take 7 (.take 8 .done)) .stop) .stop)) .stop)) (.alt 4 (.take 5 (.alt 1 (.altM 2 (.altM 6 (.take 7 (.take 8 .done)) .stop) .stop) .stop)) .stop))))
def plGL05x_6 : Plan := (.take 0 (.take 1 (.take 2 (.take 3 (.take 4 (.take 5 (.take 6 (.take 7 (.alt 8 (.alt 9 (.alt 10 .done .stop) .stop) .stop)))))))))
def plGL05x_7 : Plan := (.take 1 (.take 3 (.take 4 (.alt 0 (.alt 2 (.alt 5 (.take 6 (.take 7 (.alt 8 (.alt 9 (.alt 10 .done .stop) .stop) .stop))) .stop) (.alt 5 (.take 6 (.take 7 (.alt 2 (.alt 8 (.alt 9 (.alt 10 .done .stop) .stop) .stop) .stop))) .stop)) (.alt 2 (.alt 0 (.alt 5 (.take 6 (.take 7 (.alt 8 (.alt 9 (.alt 10 .done .stop) .stop) .stop))) .stop) (.alt 5 (.take 6 (.take 7 (.alt 0 (.alt 8 (.alt 9 (.alt 10 .done .stop) .stop) .stop) (.alt 8 (.alt 0 (.alt 9 (.alt 10 .done .stop) .stop) .stop) .stop)))) .stop)) (.alt 5 (.take 6 (.take 7 (.alt 0 (.alt 2 (.alt 8 (.alt 9 (.alt 10 .done .stop) .stop) .stop) .stop) (.alt 2 (.alt 0 (.alt 8 (.alt 9 (.alt 10 .done .stop) .stop) .stop) (.alt 8 (.alt 0 (.alt 9 (.alt 10 .done .stop) .stop) .stop) .stop)) .stop)))) .stop))))))
def plGL05x_8 : Plan := (.take 1 (.take 3 (.take 4 (.alt 0 (.alt 2 (.alt 5 (.take 6 (.take 7 (.altM 8 (.altM 9 (.alt 10 .done .stop) .stop) .stop))) .stop) (.alt 5 (.take 6 (.take 7 (.alt 2 (.altM 8 (.altM 9 (.alt 10 .done .stop) .stop) .stop) .stop))) .stop)) (.alt 2 (.alt 0 (.alt 5 (.take 6 (.take 7 (.altM 8 (.altM 9 (.alt 10 .done .stop) .stop) .stop))) .stop) (.alt 5 (.take 6 (.take 7 (.alt 0 (.altM 8 (.altM 9 (.alt 10 .done .stop) .stop) .stop) (.altM 8 (.alt 0 (.altM 9 (.alt 10 .done .stop) .stop) .stop) .stop)))) .stop)) (.alt 5 (.take 6 (.take 7 (.alt 0 (.alt 2 (.altM 8 (.altM 9 (.alt 10 .done .stop) .stop) .stop) .stop) (.alt 2 (.alt 0 (.altM 8 (.altM 9 (.alt 10 .done .stop) .stop) .stop) (.altM 8 (.alt 0 (.altM 9 (.alt 10 .done .stop) .stop) .stop) .stop)) .stop)))) .stop))))))
theorem dvd_step {c w W g : Nat} (hg : g = Nat.gcd w W) (hW : 0 < W) (hc : W / g ∣ c) : w / g * (c / (W / g)) * W = c * w := by
  obtain ⟨k, rfl⟩ := hc
  have g1 : g ∣ w := hg ▸ Nat.gcd_dvd_left w W
  have g2 : g ∣ W := hg ▸ Nat.gcd_dvd_right w W
  have hg0 : 0 < g := hg ▸ Nat.gcd_pos_of_pos_right w hW
  obtain ⟨a, ha⟩ := g1
  obtain ⟨b, hb⟩ := g2
  have hb0 : 0 < b := by
    rcases Nat.eq_zero_or_pos b with h | h
    · subst h; omega
    · exact h
  have e1 : w / g = a := by rw [ha, Nat.mul_div_cancel_left _ hg0]
  have e2 : W / g = b := by rw [hb, Nat.mul_div_cancel_left _ hg0]
  rw [e1, e2, Nat.mul_div_cancel_left _ hb0, ha]
  conv => lhs; arg 2; rw [hb]
  simp only [Nat.mul_comm, Nat.mul_left_comm]
theorem bv_nat {m : Nat} (hm : m < 4294967296) : (BitVec.ofInt IntKind.u64.bits (m : Int)).toNat = m := by
  show (BitVec.ofInt 64 (m : Int)).toNat = m
  rw [BitVec.toNat_ofInt]; omega
theorem wrap_nat {m : Nat} (hm : m < 4294967296) : IntKind.wrap .u64 (m : Int) = m := by
  show ((m : Int) % 18446744073709551616) = m
  omega
theorem and_mask5 {n : Int} (h : 0 ≤ n ∧ n < 4294967296) : IntKind.wrap .u64 ((BitVec.ofInt IntKind.u64.bits n &&& BitVec.ofInt IntKind.u64.bits 4294967295).toNat : Int) = n := by
  obtain ⟨m, rfl⟩ : ∃ m : Nat, n = m := ⟨n.toNat, by omega⟩
  have e2 : (BitVec.ofInt IntKind.u64.bits 4294967295).toNat = 2 ^ 32 - 1 := by decide
  rw [BitVec.toNat_and, bv_nat (by omega), e2, Nat.and_two_pow_sub_one_eq_mod, Nat.mod_eq_of_lt (by omega)]
  exact wrap_nat (by omega)
theorem shr325 {n : Int} (h : 0 ≤ n ∧ n < 4294967296) : n.fdiv (2 ^ min (32 : Int).toNat IntKind.u64.bits) = 0 := by
  show n.fdiv 4294967296 = 0
  rw [Int.fdiv_eq_ediv_of_nonneg _ (by omega)]
  omega
theorem mul645_ok (a b : Nat) (h : a ≤ 10000 ∧ b ≤ 10000) : Good Try.prog TT false 49 [u a, u b] (· = .tup [u 0, u (a * b)]) := by
  have hm : a * b ≤ 10000 * 10000 := Nat.mul_le_mul h.1 h.2
  have hm' : (a : Int) * b = ((a * b : Nat) : Int) := by simp
  have e0 : 0 ≤ (a : Int) * b ∧ (a : Int) * b ≤ 100000000 := by rw [hm']; omega
  have a0 := and_mask5 (n := 0) (by omega)
  have a1 := and_mask5 (n := a) (by omega)
  have an := and_mask5 (n := b) (by omega)
  have s1 := shr325 (n := a) (by omega)
  have s0 := shr325 (n := 0) (by omega)
  have sn := shr325 (n := b) (by omega)
  have sm := shr325 (n := (a : Int) * b) (by omega)
  refine good_of mixed tabOk Try.func49 rfl rfl Try.ntmps49 Try.results49 rfl rfl ?_
  (conv => whnf); (repeat' (first | (refine arith_i ⟨by omega, by omega⟩ ?_; conv => whnf) | (refine arith_u ⟨by omega, by omega⟩ ?_; conv => whnf) | (refine arith_8 ⟨by omega, by omega⟩ ?_; conv => whnf) | (refine need_i (by first | omega | (simp only [List.length_append, List.length_cons, List.length_nil, List.length_map, List.length_replicate, List.length_modify]; omega)) ?_; conv => whnf) | ((with_reducible refine branch_tt ?_); conv => whnf) | ((with_reducible refine branch_ff ?_); conv => whnf) | (with_reducible refine branch_not ?_) | ((simp only [a1, a0, an, s1, s0, sn, sm, Int.zero_mul, Int.mul_zero, Int.add_zero, Int.zero_add]); conv => whnf) | ((with_reducible refine slc_e ?_); conv => whnf) | ((with_reducible refine callS_a ?_); conv => whnf) | ((with_reducible refine bld_a ?_); conv => whnf) | ((with_reducible refine own_e ?_); conv => whnf) | ((with_reducible refine mkmap_b ?_); conv => whnf) | ((with_reducible refine branch_d (fun hq => ?_) (fun hq => ?_)) <;> (try (exfalso; omega)) <;> (conv => whnf)) | ((with_reducible refine branch_e (fun hq => ?_) (fun hq => ?_)) <;> (try (exfalso; omega)) <;> (conv => whnf)) | ((with_reducible refine branch_n (fun hq => ?_) (fun hq => ?_)) <;> (try (exfalso; omega)) <;> (conv => whnf)) | ((with_reducible refine branch_i (fun hq => ?_) (fun hq => ?_)) <;> (try (exfalso; omega)) <;> (conv => whnf))))
  exact ret_t (rs := [u 0, u (a * b)]) ⟨(rc_p rfl).g, (rc_p rfl).g, trivial⟩ rfl
theorem add64_x (a b : Nat) (h : a ≤ 100000000 ∧ b ≤ 100000000) : Ext Try.prog 61 [(.u64, a), (.u64, b), (.u64, 0)] [(.u64, ((a + b : Nat) : Int)), (.u64, 0)] :=
  ⟨_, add64Entry, Try.func61, by rfl, by rfl, by rfl, by rfl, fun w => by
    have := run_add64 (P := Try.prog) (a : Int) b 0 (by omega) (by omega) (by omega) (by omega) w
    simp only [List.map_cons, List.map_nil]
    refine this.trans ?_
    have e1 : ((a : Int) + b + 0) % 18446744073709551616 = ((a + b : Nat) : Int) := by omega
    have e2 : ((a : Int) + b + 0) / 18446744073709551616 = 0 := by omega
    rw [e1, e2]⟩
theorem wplus_ok (a b : Nat) (h : a ≤ 100000000 ∧ b ≤ 100000000) : Good Try.prog TT false 50 [wideV a, wideV b] (· = wideV (a + b)) := by
  refine good_of mixed tabOk Try.func50 rfl rfl Try.ntmps50 Try.results50 rfl rfl ?_
  (conv => whnf); (repeat' (first | (refine arith_i ⟨by omega, by omega⟩ ?_; conv => whnf) | (refine arith_u ⟨by omega, by omega⟩ ?_; conv => whnf) | (refine arith_8 ⟨by omega, by omega⟩ ?_; conv => whnf) | (refine need_i (by first | omega | (simp only [List.length_append, List.length_cons, List.length_nil, List.length_map, List.length_replicate, List.length_modify]; omega)) ?_; conv => whnf) | ((with_reducible refine branch_tt ?_); conv => whnf) | ((with_reducible refine branch_ff ?_); conv => whnf) | (with_reducible refine branch_not ?_) | ((refine call_x _ _ rfl (add64_x a b h) ?_); conv => whnf) | ((refine call_x [(.u64, ((0 : Nat) : Int)), (.u64, ((0 : Nat) : Int)), (.u64, 0)] _ rfl (add64_x 0 0 (by omega)) ?_); conv => whnf) | ((with_reducible refine slc_e ?_); conv => whnf) | ((with_reducible refine callS_a ?_); conv => whnf) | ((with_reducible refine bld_a ?_); conv => whnf) | ((with_reducible refine own_e ?_); conv => whnf) | ((with_reducible refine mkmap_b ?_); conv => whnf) | ((with_reducible refine branch_d (fun hq => ?_) (fun hq => ?_)) <;> (try (exfalso; omega)) <;> (conv => whnf)) | ((with_reducible refine branch_e (fun hq => ?_) (fun hq => ?_)) <;> (try (exfalso; omega)) <;> (conv => whnf)) | ((with_reducible refine branch_n (fun hq => ?_) (fun hq => ?_)) <;> (try (exfalso; omega)) <;> (conv => whnf)) | ((with_reducible refine branch_i (fun hq => ?_) (fun hq => ?_)) <;> (try (exfalso; omega)) <;> (conv => whnf))))
  exact ret_a (cs' := [.int .u64 0, u (a + b)]) ⟨rc_p rfl, rc_p rfl, trivial⟩ rfl
theorem product_ok (a b : Nat) (h : a ≤ 10000 ∧ b ≤ 10000) : Good Try.prog TT false 31 [u a, u b] (· = wideV (a * b)) := by
  refine good_of mixed tabOk Try.func31 rfl rfl Try.ntmps31 Try.results31 rfl rfl ?_
  (conv => whnf); (repeat' (first | (refine arith_i ⟨by omega, by omega⟩ ?_; conv => whnf) | (refine arith_u ⟨by omega, by omega⟩ ?_; conv => whnf) | (refine arith_8 ⟨by omega, by omega⟩ ?_; conv => whnf) | (refine need_i (by first | omega | (simp only [List.length_append, List.length_cons, List.length_nil, List.length_map, List.length_replicate, List.length_modify]; omega)) ?_; conv => whnf) | ((with_reducible refine branch_tt ?_); conv => whnf) | ((with_reducible refine branch_ff ?_); conv => whnf) | (with_reducible refine branch_not ?_) | ((refine call_e (mul645_ok a b h) ?_); conv => whnf) | ((with_reducible refine slc_e ?_); conv => whnf) | ((with_reducible refine callS_a ?_); conv => whnf) | ((with_reducible refine bld_a ?_); conv => whnf) | ((with_reducible refine own_e ?_); conv => whnf) | ((with_reducible refine mkmap_b ?_); conv => whnf) | ((with_reducible refine branch_d (fun hq => ?_) (fun hq => ?_)) <;> (try (exfalso; omega)) <;> (conv => whnf)) | ((with_reducible refine branch_e (fun hq => ?_) (fun hq => ?_)) <;> (try (exfalso; omega)) <;> (conv => whnf)) | ((with_reducible refine branch_n (fun hq => ?_) (fun hq => ?_)) <;> (try (exfalso; omega)) <;> (conv => whnf)) | ((with_reducible refine branch_i (fun hq => ?_) (fun hq => ?_)) <;> (try (exfalso; omega)) <;> (conv => whnf))))
  exact ret_a (cs' := [.int .u64 0, u (a * b)]) ⟨rc_p rfl, rc_p rfl, trivial⟩ rfl
def sgnV (a : Nat) : AV := .agg [.bool false, .int .u64 0, u a]
theorem sgn_ret {b : Bool} (h : b = false) (a : Nat) : aret (.agg [.bool b, .int .u64 0, u a]) (· = sgnV a) := by
  subst h; exact ret_a (cs' := [.bool false, .int .u64 0, u a]) ⟨rc_p rfl, rc_p rfl, rc_p rfl, trivial⟩ rfl
theorem splus_ok (a b : Nat) (h : a ≤ 100000000 ∧ b ≤ 100000000) : Good Try.prog TT false 33 [sgnV a, sgnV b] (· = sgnV (a + b)) := by
  refine good_of mixed tabOk Try.func33 rfl rfl Try.ntmps33 Try.results33 rfl rfl ?_
  (conv => whnf); (repeat' (first | (refine arith_i ⟨by omega, by omega⟩ ?_; conv => whnf) | (refine arith_u ⟨by omega, by omega⟩ ?_; conv => whnf) | (refine arith_8 ⟨by omega, by omega⟩ ?_; conv => whnf) | (refine need_i (by first | omega | (simp only [List.length_append, List.length_cons, List.length_nil, List.length_map, List.length_replicate, List.length_modify]; omega)) ?_; conv => whnf) | ((with_reducible refine branch_tt ?_); conv => whnf) | ((with_reducible refine branch_ff ?_); conv => whnf) | (with_reducible refine branch_not ?_) | ((refine call_e (wplus_ok a b h) ?_); conv => whnf) | ((refine branch_t rfl ?_); conv => whnf) | ((with_reducible refine slc_e ?_); conv => whnf) | ((with_reducible refine callS_a ?_); conv => whnf) | ((with_reducible refine bld_a ?_); conv => whnf) | ((with_reducible refine own_e ?_); conv => whnf) | ((with_reducible refine mkmap_b ?_); conv => whnf) | (refine draw_i 8 plGL05x_0 (by decide +kernel) ?_; (conv => whnf); fail_if_success (guard_target =~ False)) | (refine draw_i 8 plGL05x_1 (by decide +kernel) ?_; (conv => whnf); fail_if_success (guard_target =~ False)) | (refine draw_i 8 plGL05x_0 (by decide +kernel) ?_; (conv => whnf); fail_if_success (guard_target =~ False)) | (refine draw_i 8 plGL05x_1 (by decide +kernel) ?_; (conv => whnf); fail_if_success (guard_target =~ False)) | (refine draw_i 8 plGL05x_0 (by decide +kernel) ?_; (conv => whnf); fail_if_success (guard_target =~ False)) | (refine draw_i 8 plGL05x_1 (by decide +kernel) ?_; (conv => whnf); fail_if_success (guard_target =~ False)) | ((with_reducible refine And.intro ?_ ?_) <;> (conv => whnf)) | (with_reducible exact trivial) | ((with_reducible refine branch_d (fun hq => ?_) (fun hq => ?_)) <;> (try (exfalso; omega)) <;> (conv => whnf)) | ((with_reducible refine branch_e (fun hq => ?_) (fun hq => ?_)) <;> (try (exfalso; omega)) <;> (conv => whnf)) | ((with_reducible refine branch_n (fun hq => ?_) (fun hq => ?_)) <;> (try (exfalso; omega)) <;> (conv => whnf)) | ((with_reducible refine branch_i (fun hq => ?_) (fun hq => ?_)) <;> (try (exfalso; omega)) <;> (conv => whnf))))
  exact sgn_ret rfl _
theorem sproduct_ok (a b : Nat) (h : a ≤ 10000 ∧ b ≤ 10000) : Good Try.prog TT false 34 [.int .i64 a, u b] (· = sgnV (a * b)) := by
  refine good_of mixed tabOk Try.func34 rfl rfl Try.ntmps34 Try.results34 rfl rfl ?_
  (conv => whnf); (repeat' (first | (refine arith_i ⟨by omega, by omega⟩ ?_; conv => whnf) | (refine arith_u ⟨by omega, by omega⟩ ?_; conv => whnf) | (refine arith_8 ⟨by omega, by omega⟩ ?_; conv => whnf) | (refine need_i (by first | omega | (simp only [List.length_append, List.length_cons, List.length_nil, List.length_map, List.length_replicate, List.length_modify]; omega)) ?_; conv => whnf) | ((with_reducible refine branch_tt ?_); conv => whnf) | ((with_reducible refine branch_ff ?_); conv => whnf) | (with_reducible refine branch_not ?_) | ((refine call_e (product_ok a b h) ?_); conv => whnf) | ((refine call_e (magnitude_ok a (by omega)) ?_); conv => whnf) | ((with_reducible refine slc_e ?_); conv => whnf) | ((with_reducible refine callS_a ?_); conv => whnf) | ((with_reducible refine bld_a ?_); conv => whnf) | ((with_reducible refine own_e ?_); conv => whnf) | ((with_reducible refine mkmap_b ?_); conv => whnf) | ((with_reducible refine branch_d (fun hq => ?_) (fun hq => ?_)) <;> (try (exfalso; omega)) <;> (conv => whnf)) | ((with_reducible refine branch_e (fun hq => ?_) (fun hq => ?_)) <;> (try (exfalso; omega)) <;> (conv => whnf)) | ((with_reducible refine branch_n (fun hq => ?_) (fun hq => ?_)) <;> (try (exfalso; omega)) <;> (conv => whnf)) | ((with_reducible refine branch_i (fun hq => ?_) (fun hq => ?_)) <;> (try (exfalso; omega)) <;> (conv => whnf))))
  exact sgn_ret (by simp) _
theorem rvalid_ok (a b : Nat) (h : a ≤ 10000 ∧ 1 ≤ b ∧ b ≤ 10000) (hg : Nat.gcd a b = 1) : Good Try.prog TT false 30 [.agg [.int .i64 a, .int .i64 b]] (· = .bool true) := by
  have ha : a ≤ 1000000 := by omega
  have hb : b ≤ 1000000 := by omega
  refine good_of mixed tabOk Try.func30 rfl rfl Try.ntmps30 Try.results30 rfl rfl ?_
  (conv => whnf); (repeat' (first | (refine arith_i ⟨by omega, by omega⟩ ?_; conv => whnf) | (refine arith_u ⟨by omega, by omega⟩ ?_; conv => whnf) | (refine arith_8 ⟨by omega, by omega⟩ ?_; conv => whnf) | (refine need_i (by first | omega | (simp only [List.length_append, List.length_cons, List.length_nil, List.length_map, List.length_replicate, List.length_modify]; omega)) ?_; conv => whnf) | ((with_reducible refine branch_tt ?_); conv => whnf) | ((with_reducible refine branch_ff ?_); conv => whnf) | (with_reducible refine branch_not ?_) | ((refine call_e (gcd_ok a b ha hb) ?_); conv => whnf) | ((refine call_e (magnitude_ok a ha) ?_); conv => whnf) | ((with_reducible refine slc_e ?_); conv => whnf) | ((with_reducible refine callS_a ?_); conv => whnf) | ((with_reducible refine bld_a ?_); conv => whnf) | ((with_reducible refine own_e ?_); conv => whnf) | ((with_reducible refine mkmap_b ?_); conv => whnf) | (refine draw_i 9 plGL05x_3 (by decide +kernel) ?_; (conv => whnf); fail_if_success (guard_target =~ False)) | (refine draw_i 9 plGL05x_4 (by decide +kernel) ?_; (conv => whnf); fail_if_success (guard_target =~ False)) | ((with_reducible refine And.intro ?_ ?_) <;> (conv => whnf)) | (with_reducible exact trivial) | ((with_reducible refine branch_d (fun hq => ?_) (fun hq => ?_)) <;> (try (exfalso; omega)) <;> (conv => whnf)) | ((with_reducible refine branch_e (fun hq => ?_) (fun hq => ?_)) <;> (try (exfalso; omega)) <;> (conv => whnf)) | ((with_reducible refine branch_n (fun hq => ?_) (fun hq => ?_)) <;> (try (exfalso; omega)) <;> (conv => whnf)) | ((with_reducible refine branch_i (fun hq => ?_) (fun hq => ?_)) <;> (try (exfalso; omega)) <;> (conv => whnf))))
  exact ret_p rfl (by rw [hg]; rfl)
def encRt (p : Nat × Nat) : List AV := [.int .i64 (p.1 : Int), .int .i64 (p.2 : Int)]
def shr (W : Nat) (w : Nat) : Nat × Nat := (w / Nat.gcd w W, W / Nat.gcd w W)
theorem shr_in {W w : Nat} (hW : 1 ≤ W ∧ W ≤ 6000) (hw : w ≤ 1000) : (shr W w).1 ≤ 1000 ∧ 1 ≤ (shr W w).2 ∧ (shr W w).2 ≤ 6000 ∧ (shr W w).2 ∣ W ∧ Nat.gcd (shr W w).1 (shr W w).2 = 1 := by
  have hg := Nat.gcd_pos_of_pos_right w hW.1
  have h2 := Nat.gcd_dvd_right w W
  refine ⟨Nat.le_trans (Nat.div_le_self _ _) hw, Nat.div_pos (Nat.le_of_dvd hW.1 h2) hg, Nat.le_trans (Nat.div_le_self _ _) hW.2, Nat.div_dvd_of_dvd h2, ?_⟩
  rw [shr, Nat.gcd_div (Nat.gcd_dvd_left w W) h2, Nat.div_self hg]
theorem lcm_in {c d W : Nat} (hW : 1 ≤ W ∧ W ≤ 6000) (hc : 1 ≤ c) (h1 : c ∣ W) (hd : 1 ≤ d) (h2 : d ∣ W) : c * (d / Nat.gcd c d) = Nat.lcm c d ∧ 1 ≤ Nat.lcm c d ∧ Nat.lcm c d ∣ W ∧ Nat.lcm c d ≤ 6000 ∧ d / Nat.gcd c d ≤ 6000 ∧ c ≤ 6000 := by
  have h := Nat.lcm_dvd h1 h2
  have e := Nat.le_of_dvd hW.1 h
  have e2 := Nat.le_of_dvd hW.1 h2
  have e3 := Nat.le_of_dvd hW.1 h1
  refine ⟨(Nat.mul_div_assoc c (Nat.gcd_dvd_right c d)).symm, Nat.lcm_pos hc hd, h, by omega, Nat.le_trans (Nat.div_le_self _ _) (by omega), by omega⟩
theorem arith_div {a b : Nat} {K : AV → Prop} (h : a / b ≤ 1000000000) (k : K (u (a / b))) : arith .u64 (Int.tdiv (a : Int) (b : Int)) K := by
  rw [div_le']; exact arith_u (by have := Int.natCast_nonneg (a / b); omega) k
theorem take_sum {ws : List Nat} {k : Nat} : (ws.take k).sum ≤ ws.sum := by
  conv => rhs; rw [← List.take_append_drop k ws, List.sum_append_nat]
  exact Nat.le_add_right _ _
theorem take_sum_next {ws : List Nat} {k w : Nat} (h : ws[k]? = some w) : (ws.take (k + 1)).sum = (ws.take k).sum + w := by
  rw [List.take_add_one, h, List.sum_append_nat]; simp
set_option maxHeartbeats 1000000 in
theorem sum_ok (ws : List Nat) (W : Nat) (hW : 1 ≤ W ∧ W ≤ 6000) (hl : ws.length ≤ 100) (hw : ∀ w ∈ ws, w ≤ 1000) (hs : ws.sum = W) : Good Try.prog TT false 10 [.lst 2 ((ws.map (shr W)).map encRt)] (· = .tup [.agg [.int .i64 1, .int .i64 1], .int .i64 0]) := by
  have L : ((ws.map (shr W)).map encRt).length = ws.length := by simp
  have L' : (ws.map (shr W)).length = ws.length := by simp
  have hat : ∀ (k : Nat) (p : Nat × Nat), (ws.map (shr W))[k]? = some p → ∃ w, ws[k]? = some w ∧ p = shr W w ∧ w ≤ 1000 := fun k p h => by
    rw [List.getElem?_map] at h
    cases hx : ws[k]? with
    | none => rw [hx] at h; cases h
    | some w => rw [hx] at h; injection h with h; exact ⟨w, rfl, h.symm, hw w (List.mem_of_getElem? hx)⟩
  refine good_of mixed tabOk Try.func10 rfl rfl Try.ntmps10 Try.results10 rfl rfl ?_
  (conv => whnf); (repeat' (first | (refine arith_i ⟨by omega, by omega⟩ ?_; conv => whnf) | (refine arith_u ⟨by omega, by omega⟩ ?_; conv => whnf) | (refine arith_8 ⟨by omega, by omega⟩ ?_; conv => whnf) | (refine need_i (by first | omega | (simp only [List.length_append, List.length_cons, List.length_nil, List.length_map, List.length_replicate, List.length_modify]; omega)) ?_; conv => whnf) | ((with_reducible refine branch_tt ?_); conv => whnf) | ((with_reducible refine branch_ff ?_); conv => whnf) | (with_reducible refine branch_not ?_) | ((fail); conv => whnf) | ((with_reducible refine slc_e ?_); conv => whnf) | ((with_reducible refine callS_a ?_); conv => whnf) | ((with_reducible refine bld_a ?_); conv => whnf) | ((with_reducible refine own_e ?_); conv => whnf) | ((with_reducible refine mkmap_b ?_); conv => whnf) | (refine draw_i 10 plGL05x_6 (by decide +kernel) ?_; (conv => whnf); fail_if_success (guard_target =~ False)) | (refine draw_i 10 plGL05x_7 (by decide +kernel) ?_; (conv => whnf); fail_if_success (guard_target =~ False)) | ((with_reducible refine And.intro ?_ ?_) <;> (conv => whnf)) | (with_reducible exact trivial) | ((with_reducible refine branch_d (fun hq => ?_) (fun hq => ?_)) <;> (try (exfalso; omega)) <;> (conv => whnf)) | ((with_reducible refine branch_e (fun hq => ?_) (fun hq => ?_)) <;> (try (exfalso; omega)) <;> (conv => whnf)) | ((with_reducible refine branch_n (fun hq => ?_) (fun hq => ?_)) <;> (try (exfalso; omega)) <;> (conv => whnf)) | ((with_reducible refine branch_i (fun hq => ?_) (fun hq => ?_)) <;> (try (exfalso; omega)) <;> (conv => whnf))))
  generalize hrs : ws.map (shr W) = rs at L L' hat ⊢
  refine loop_i (fun k : Nat => k ≤ rs.length) (fun k => mkSt [(0, .lst 2 (rs.map encRt)), (2, .ptr 2 0), (18, .lst 2 (rs.map encRt)), (19, .int .i64 (rs.map encRt).length), (20, .int .i64 k)] [(2, [.int .i64 0, .int .i64 0])] false) (fun k => rs.length - k) 0 (Nat.zero_le _) (le_mk ⟨rfl, rfl, rfl, rfl, rfl, trivial⟩ ⟨rfl, trivial⟩ rfl) ?_
  intro k hk
  (conv => whnf); (repeat (first | (refine arith_i ⟨by omega, by omega⟩ ?_; conv => whnf) | (refine need_i (by first | omega | (simp only [List.length_append, List.length_cons, List.length_nil]; omega)) ?_; conv => whnf) | ((with_reducible refine branch_tt ?_); conv => whnf) | ((with_reducible refine branch_ff ?_); conv => whnf) | (with_reducible refine branch_not ?_) | ((with_reducible refine slc_e ?_); conv => whnf) | ((with_reducible refine callS_a ?_); conv => whnf) | ((with_reducible refine bld_a ?_); conv => whnf) | ((with_reducible refine own_e ?_); conv => whnf) | ((with_reducible refine mkmap_b ?_); conv => whnf)))
  refine branch_d (fun h => ?_) (fun h => ?_)
  · (conv => whnf); (repeat (first | (refine arith_i ⟨by omega, by omega⟩ ?_; conv => whnf) | (refine need_i (by first | omega | (simp only [List.length_append, List.length_cons, List.length_nil]; omega)) ?_; conv => whnf) | ((with_reducible refine branch_tt ?_); conv => whnf) | ((with_reducible refine branch_ff ?_); conv => whnf) | (with_reducible refine branch_not ?_) | ((with_reducible refine slc_e ?_); conv => whnf) | ((with_reducible refine callS_a ?_); conv => whnf) | ((with_reducible refine bld_a ?_); conv => whnf) | ((with_reducible refine own_e ?_); conv => whnf) | ((with_reducible refine mkmap_b ?_); conv => whnf)))
    refine idx_m (by omega) (by omega) fun p hp => ?_
    rw [Int.toNat_natCast] at hp
    obtain ⟨w, -, rfl, hw1⟩ := hat k p hp
    obtain ⟨g1, g2, g3, g4, g5⟩ := shr_in hW hw1
    (conv => whnf); (repeat (first | (refine arith_i ⟨by omega, by omega⟩ ?_; conv => whnf) | (refine need_i (by first | omega | (simp only [List.length_append, List.length_cons, List.length_nil]; omega)) ?_; conv => whnf) | ((with_reducible refine branch_tt ?_); conv => whnf) | ((with_reducible refine branch_ff ?_); conv => whnf) | (with_reducible refine branch_not ?_) | ((with_reducible refine slc_e ?_); conv => whnf) | ((with_reducible refine callS_a ?_); conv => whnf) | ((with_reducible refine bld_a ?_); conv => whnf) | ((with_reducible refine own_e ?_); conv => whnf) | ((with_reducible refine mkmap_b ?_); conv => whnf)))
    refine call_e (rvalid_ok (shr W w).1 (shr W w).2 (by omega) g5) ?_
    (conv => whnf); (repeat (first | (refine arith_i ⟨by omega, by omega⟩ ?_; conv => whnf) | (refine need_i (by first | omega | (simp only [List.length_append, List.length_cons, List.length_nil]; omega)) ?_; conv => whnf) | ((with_reducible refine branch_tt ?_); conv => whnf) | ((with_reducible refine branch_ff ?_); conv => whnf) | (with_reducible refine branch_not ?_) | ((with_reducible refine slc_e ?_); conv => whnf) | ((with_reducible refine callS_a ?_); conv => whnf) | ((with_reducible refine bld_a ?_); conv => whnf) | ((with_reducible refine own_e ?_); conv => whnf) | ((with_reducible refine mkmap_b ?_); conv => whnf)))
    exact ⟨k + 1, by omega, le_mk ⟨rfl, rfl, rfl, rfl, rfl, trivial⟩ ⟨rfl, trivial⟩ rfl, by omega⟩
  (conv => whnf); (repeat (first | (refine arith_i ⟨by omega, by omega⟩ ?_; conv => whnf) | (refine need_i (by first | omega | (simp only [List.length_append, List.length_cons, List.length_nil]; omega)) ?_; conv => whnf) | ((with_reducible refine branch_tt ?_); conv => whnf) | ((with_reducible refine branch_ff ?_); conv => whnf) | (with_reducible refine branch_not ?_) | ((with_reducible refine slc_e ?_); conv => whnf) | ((with_reducible refine callS_a ?_); conv => whnf) | ((with_reducible refine bld_a ?_); conv => whnf) | ((with_reducible refine own_e ?_); conv => whnf) | ((with_reducible refine mkmap_b ?_); conv => whnf)))
  refine loop_i2 (fun k c : Nat => k ≤ rs.length ∧ 1 ≤ c ∧ c ∣ W ∧ ∀ (j : Nat) (p : Nat × Nat), j < k → rs[j]? = some p → p.2 ∣ c) (fun k c => mkSt [(0, .lst 2 (rs.map encRt)), (2, .ptr 2 0), (6, u c), (29, .lst 2 (rs.map encRt)), (30, .int .i64 (rs.map encRt).length), (31, .int .i64 k)] [(2, [.int .i64 0, .int .i64 0])] false) (fun k _ => rs.length - k) 0 1 ⟨Nat.zero_le _, Nat.le_refl _, Nat.one_dvd _, fun j p hj => absurd hj (Nat.not_lt_zero _)⟩ (le_mk ⟨rfl, rfl, rfl, rfl, rfl, rfl, trivial⟩ ⟨rfl, trivial⟩ rfl) ?_
  rintro k2 c ⟨hk2, hc1, hcW, hall⟩
  (conv => whnf); (repeat (first | (refine arith_i ⟨by omega, by omega⟩ ?_; conv => whnf) | (refine need_i (by first | omega | (simp only [List.length_append, List.length_cons, List.length_nil]; omega)) ?_; conv => whnf) | ((with_reducible refine branch_tt ?_); conv => whnf) | ((with_reducible refine branch_ff ?_); conv => whnf) | (with_reducible refine branch_not ?_) | ((with_reducible refine slc_e ?_); conv => whnf) | ((with_reducible refine callS_a ?_); conv => whnf) | ((with_reducible refine bld_a ?_); conv => whnf) | ((with_reducible refine own_e ?_); conv => whnf) | ((with_reducible refine mkmap_b ?_); conv => whnf)))
  refine branch_d (fun h2 => ?_) (fun h2 => ?_)
  · (conv => whnf); (repeat (first | (refine arith_i ⟨by omega, by omega⟩ ?_; conv => whnf) | (refine need_i (by first | omega | (simp only [List.length_append, List.length_cons, List.length_nil]; omega)) ?_; conv => whnf) | ((with_reducible refine branch_tt ?_); conv => whnf) | ((with_reducible refine branch_ff ?_); conv => whnf) | (with_reducible refine branch_not ?_) | ((with_reducible refine slc_e ?_); conv => whnf) | ((with_reducible refine callS_a ?_); conv => whnf) | ((with_reducible refine bld_a ?_); conv => whnf) | ((with_reducible refine own_e ?_); conv => whnf) | ((with_reducible refine mkmap_b ?_); conv => whnf)))
    refine idx_m (by omega) (by omega) fun p hp => ?_
    rw [Int.toNat_natCast] at hp
    obtain ⟨w, -, he, hw1⟩ := hat k2 p hp
    obtain ⟨g1, g2, g3, g4, g5⟩ := shr_in hW hw1
    rw [← he] at g1 g2 g3 g4 g5
    obtain ⟨n, d⟩ := p
    replace g2 : 1 ≤ d := g2
    replace g3 : d ≤ 6000 := g3
    replace g4 : d ∣ W := g4
    obtain ⟨l1, l2, l3, l4, l5, l6⟩ := lcm_in hW hc1 hcW g2 g4
    have hc6 : c ≤ 1000000 := by omega
    have hd6 : d ≤ 1000000 := by omega
    have hgp : 1 ≤ Nat.gcd c d := Nat.gcd_pos_of_pos_right c g2
    (conv => whnf); (repeat' (first | (refine arith_i ⟨by omega, by omega⟩ ?_; conv => whnf) | (refine arith_u ⟨by omega, by omega⟩ ?_; conv => whnf) | (refine arith_8 ⟨by omega, by omega⟩ ?_; conv => whnf) | (refine need_i (by first | omega | (simp only [List.length_append, List.length_cons, List.length_nil, List.length_map, List.length_replicate, List.length_modify]; omega)) ?_; conv => whnf) | ((with_reducible refine branch_tt ?_); conv => whnf) | ((with_reducible refine branch_ff ?_); conv => whnf) | (with_reducible refine branch_not ?_) | ((refine call_e (gcd_ok c d hc6 hd6) ?_); conv => whnf) | ((refine arith_div (a := d) (b := Nat.gcd c d) (by omega) ?_); conv => whnf) | ((refine call_e (product_ok c (d / Nat.gcd c d) (by omega)) ?_); conv => whnf) | ((with_reducible refine slc_e ?_); conv => whnf) | ((with_reducible refine callS_a ?_); conv => whnf) | ((with_reducible refine bld_a ?_); conv => whnf) | ((with_reducible refine own_e ?_); conv => whnf) | ((with_reducible refine mkmap_b ?_); conv => whnf) | (refine draw_i 10 plGL05x_6 (by decide +kernel) ?_; (conv => whnf); fail_if_success (guard_target =~ False)) | (refine draw_i 10 plGL05x_7 (by decide +kernel) ?_; (conv => whnf); fail_if_success (guard_target =~ False)) | ((with_reducible refine And.intro ?_ ?_) <;> (conv => whnf)) | (with_reducible exact trivial) | ((with_reducible refine branch_d (fun hq => ?_) (fun hq => ?_)) <;> (try (exfalso; omega)) <;> (conv => whnf)) | ((with_reducible refine branch_e (fun hq => ?_) (fun hq => ?_)) <;> (try (exfalso; omega)) <;> (conv => whnf)) | ((with_reducible refine branch_n (fun hq => ?_) (fun hq => ?_)) <;> (try (exfalso; omega)) <;> (conv => whnf)) | ((with_reducible refine branch_i (fun hq => ?_) (fun hq => ?_)) <;> (try (exfalso; omega)) <;> (conv => whnf))))
    exact ⟨k2 + 1, Nat.lcm c d, ⟨by omega, l2, l3, fun j q hj hq => by
      rcases Nat.lt_or_ge j k2 with h | h
      · exact Nat.dvd_trans (hall j q h hq) (Nat.dvd_lcm_left c d)
      · have : j = k2 := by omega
        subst this; rw [hp] at hq; injection hq with hq; rw [← hq]; exact Nat.dvd_lcm_right c d⟩, le_mk ⟨rfl, rfl, congrArg u l1, rfl, rfl, rfl, trivial⟩ ⟨rfl, trivial⟩ rfl, by omega⟩
  (conv => whnf); (repeat (first | (refine arith_i ⟨by omega, by omega⟩ ?_; conv => whnf) | (refine need_i (by first | omega | (simp only [List.length_append, List.length_cons, List.length_nil]; omega)) ?_; conv => whnf) | ((with_reducible refine branch_tt ?_); conv => whnf) | ((with_reducible refine branch_ff ?_); conv => whnf) | (with_reducible refine branch_not ?_) | ((with_reducible refine slc_e ?_); conv => whnf) | ((with_reducible refine callS_a ?_); conv => whnf) | ((with_reducible refine bld_a ?_); conv => whnf) | ((with_reducible refine own_e ?_); conv => whnf) | ((with_reducible refine mkmap_b ?_); conv => whnf)))
  refine loop_i2 (fun k t : Nat => k ≤ rs.length ∧ t * W = c * (ws.take k).sum) (fun k t => mkSt [(2, .ptr 2 0), (6, u c), (11, .ptr 11 0), (57, .lst 2 (rs.map encRt)), (58, .int .i64 (rs.map encRt).length), (59, .int .i64 k)] [(2, [.int .i64 0, .int .i64 0]), (11, [.bool false, .int .u64 0, u t])] false) (fun k _ => rs.length - k) 0 0 ⟨Nat.zero_le _, by simp⟩ (le_mk ⟨rfl, rfl, rfl, rfl, rfl, rfl, trivial⟩ ⟨rfl, rfl, trivial⟩ rfl) ?_
  rintro k3 t ⟨hk3, ht⟩
  (conv => whnf); (repeat (first | (refine arith_i ⟨by omega, by omega⟩ ?_; conv => whnf) | (refine need_i (by first | omega | (simp only [List.length_append, List.length_cons, List.length_nil]; omega)) ?_; conv => whnf) | ((with_reducible refine branch_tt ?_); conv => whnf) | ((with_reducible refine branch_ff ?_); conv => whnf) | (with_reducible refine branch_not ?_) | ((with_reducible refine slc_e ?_); conv => whnf) | ((with_reducible refine callS_a ?_); conv => whnf) | ((with_reducible refine bld_a ?_); conv => whnf) | ((with_reducible refine own_e ?_); conv => whnf) | ((with_reducible refine mkmap_b ?_); conv => whnf)))
  refine branch_d (fun h3 => ?_) (fun h3 => ?_)
  · (conv => whnf); (repeat (first | (refine arith_i ⟨by omega, by omega⟩ ?_; conv => whnf) | (refine need_i (by first | omega | (simp only [List.length_append, List.length_cons, List.length_nil]; omega)) ?_; conv => whnf) | ((with_reducible refine branch_tt ?_); conv => whnf) | ((with_reducible refine branch_ff ?_); conv => whnf) | (with_reducible refine branch_not ?_) | ((with_reducible refine slc_e ?_); conv => whnf) | ((with_reducible refine callS_a ?_); conv => whnf) | ((with_reducible refine bld_a ?_); conv => whnf) | ((with_reducible refine own_e ?_); conv => whnf) | ((with_reducible refine mkmap_b ?_); conv => whnf)))
    refine idx_m (by omega) (by omega) fun p hp => ?_
    rw [Int.toNat_natCast] at hp
    obtain ⟨w, hww, he, hw1⟩ := hat k3 p hp
    obtain ⟨g1, g2, g3, g4, g5⟩ := shr_in hW hw1
    rw [← he] at g1 g2 g3 g4 g5
    have g6 := hall k3 p (by omega) hp
    have g7 := dvd_step (c := c) (w := w) (W := W) rfl hW.1 (by rw [show W / Nat.gcd w W = p.2 by rw [he]; rfl]; exact g6)
    rw [show W / Nat.gcd w W = p.2 by rw [he]; rfl, show w / Nat.gcd w W = p.1 by rw [he]; rfl] at g7
    obtain ⟨n, d⟩ := p
    replace g1 : n ≤ 1000 := g1
    replace g2 : 1 ≤ d := g2
    replace g3 : d ≤ 6000 := g3
    replace g7 : n * (c / d) * W = c * w := g7
    have hcd : c / d ≤ c := Nat.div_le_self _ _
    have hc9 : c ≤ 6000 := Nat.le_trans (Nat.le_of_dvd hW.1 hcW) hW.2
    have hts := take_sum (ws := ws) (k := k3)
    have htc : t ≤ 6000 := by
      refine Nat.le_trans (Nat.le_of_mul_le_mul_right ?_ (show 0 < W from hW.1)) hc9
      rw [ht]; exact Nat.mul_le_mul_left _ (by omega)
    have hn : n * (c / d) ≤ 1000 * 6000 := Nat.mul_le_mul g1 (by omega)
    (conv => whnf); (repeat' (first | (refine arith_i ⟨by omega, by omega⟩ ?_; conv => whnf) | (refine arith_u ⟨by omega, by omega⟩ ?_; conv => whnf) | (refine arith_8 ⟨by omega, by omega⟩ ?_; conv => whnf) | (refine need_i (by first | omega | (simp only [List.length_append, List.length_cons, List.length_nil, List.length_map, List.length_replicate, List.length_modify]; omega)) ?_; conv => whnf) | ((with_reducible refine branch_tt ?_); conv => whnf) | ((with_reducible refine branch_ff ?_); conv => whnf) | (with_reducible refine branch_not ?_) | ((refine arith_div (a := c) (b := d) (by omega) ?_); conv => whnf) | ((refine call_e (sproduct_ok n (c / d) (by omega)) ?_); conv => whnf) | ((refine call_e (splus_ok t (n * (c / d)) (by omega)) ?_); conv => whnf) | ((with_reducible refine slc_e ?_); conv => whnf) | ((with_reducible refine callS_a ?_); conv => whnf) | ((with_reducible refine bld_a ?_); conv => whnf) | ((with_reducible refine own_e ?_); conv => whnf) | ((with_reducible refine mkmap_b ?_); conv => whnf) | (refine draw_i 10 plGL05x_6 (by decide +kernel) ?_; (conv => whnf); fail_if_success (guard_target =~ False)) | (refine draw_i 10 plGL05x_7 (by decide +kernel) ?_; (conv => whnf); fail_if_success (guard_target =~ False)) | ((with_reducible refine And.intro ?_ ?_) <;> (conv => whnf)) | (with_reducible exact trivial) | ((with_reducible refine branch_d (fun hq => ?_) (fun hq => ?_)) <;> (try (exfalso; omega)) <;> (conv => whnf)) | ((with_reducible refine branch_e (fun hq => ?_) (fun hq => ?_)) <;> (try (exfalso; omega)) <;> (conv => whnf)) | ((with_reducible refine branch_n (fun hq => ?_) (fun hq => ?_)) <;> (try (exfalso; omega)) <;> (conv => whnf)) | ((with_reducible refine branch_i (fun hq => ?_) (fun hq => ?_)) <;> (try (exfalso; omega)) <;> (conv => whnf))))
    exact ⟨k3 + 1, t + n * (c / d), ⟨by omega, by rw [take_sum_next hww, Nat.add_mul, ht, g7, Nat.mul_add]⟩, le_mk ⟨rfl, rfl, rfl, rfl, rfl, rfl, trivial⟩ ⟨rfl, rfl, trivial⟩ rfl, by omega⟩
  have hk3' : k3 = rs.length := by omega
  have htc : t = c := by
    rw [hk3', L', List.take_length, hs] at ht
    exact Nat.eq_of_mul_eq_mul_right (show 0 < W from hW.1) ht
  subst htc
  have hc7 : t ≤ 6000 := Nat.le_trans (Nat.le_of_dvd hW.1 hcW) hW.2
  (conv => whnf); (repeat (first | (refine arith_i ⟨by omega, by omega⟩ ?_; conv => whnf) | (refine need_i (by first | omega | (simp only [List.length_append, List.length_cons, List.length_nil]; omega)) ?_; conv => whnf) | ((with_reducible refine branch_tt ?_); conv => whnf) | ((with_reducible refine branch_ff ?_); conv => whnf) | (with_reducible refine branch_not ?_) | ((with_reducible refine slc_e ?_); conv => whnf) | ((with_reducible refine callS_a ?_); conv => whnf) | ((with_reducible refine bld_a ?_); conv => whnf) | ((with_reducible refine own_e ?_); conv => whnf) | ((with_reducible refine mkmap_b ?_); conv => whnf)))
  refine call_e (reduced_ok t t (by omega) (by omega)) ?_
  (conv => whnf); (repeat (first | (refine arith_i ⟨by omega, by omega⟩ ?_; conv => whnf) | (refine need_i (by first | omega | (simp only [List.length_append, List.length_cons, List.length_nil]; omega)) ?_; conv => whnf) | ((with_reducible refine branch_tt ?_); conv => whnf) | ((with_reducible refine branch_ff ?_); conv => whnf) | (with_reducible refine branch_not ?_) | ((with_reducible refine slc_e ?_); conv => whnf) | ((with_reducible refine callS_a ?_); conv => whnf) | ((with_reducible refine bld_a ?_); conv => whnf) | ((with_reducible refine own_e ?_); conv => whnf) | ((with_reducible refine mkmap_b ?_); conv => whnf)))
  have e1 : t / Nat.gcd t t = 1 := by rw [Nat.gcd_self]; exact Nat.div_self (by omega)
  rw [e1]
  exact ret_t (rs := [.agg [.int .i64 1, .int .i64 1], .int .i64 0]) ⟨.inr ⟨_, _, rfl, rfl, rc_p rfl, rc_p rfl, trivial⟩, (rc_p rfl).g, trivial⟩ rfl
def wsOf (s : Syl) : List Nat := s.comps.map fun c => c.weight.toNat
theorem ws_sum {s : Syl} (hw : ∀ (k : Nat) (c : Cmp), s.comps[k]? = some c → 0 ≤ c.weight ∧ c.weight ≤ 1000) : ∀ {k : Nat}, k ≤ s.comps.length → (((wsOf s).take k).sum : Int) = sumN (wgt s) k
  | 0, _ => by simp [sumN]
  | k + 1, h => by
    obtain ⟨c, hc⟩ : ∃ c, s.comps[k]? = some c := ⟨_, List.getElem?_eq_getElem (by omega)⟩
    have h1 : (wsOf s)[k]? = some c.weight.toNat := by simp [wsOf, hc]
    have := hw k c hc
    rw [take_sum_next h1, sumN, ← ws_sum hw (by omega : k ≤ s.comps.length), wgt_at hc]
    omega
theorem shares_next {s : Syl} {W k : Nat} {c : Cmp} (hc : s.comps[k]? = some c) : ((((wsOf s).take (k + 1)).map (shr W)).map encRt) = (((wsOf s).take k).map (shr W)).map encRt ++ [encRt (shr W c.weight.toNat)] := by
  have h1 : (wsOf s)[k]? = some c.weight.toNat := by simp [wsOf, hc]
  rw [List.take_add_one, h1]; simp
set_option maxHeartbeats 1000000 in
theorem whole_law (xs : List Int) (hx : xs.length ≤ 9223372036854775807) : Good Try.prog TT false 3 [ints xs] (· = .bool true) := by
  refine good_of mixed tabOk Try.func3 rfl rfl Try.ntmps3 Try.results3 rfl rfl ?_
  (conv => whnf); (repeat (first | (refine arith_i ⟨by omega, by omega⟩ ?_; conv => whnf) | (refine need_i (by first | omega | (simp only [List.length_append, List.length_cons, List.length_nil]; omega)) ?_; conv => whnf) | ((with_reducible refine branch_tt ?_); conv => whnf) | ((with_reducible refine branch_ff ?_); conv => whnf) | (with_reducible refine branch_not ?_) | ((with_reducible refine slc_e ?_); conv => whnf) | ((with_reducible refine callS_a ?_); conv => whnf) | ((with_reducible refine bld_a ?_); conv => whnf) | ((with_reducible refine own_e ?_); conv => whnf) | ((with_reducible refine mkmap_b ?_); conv => whnf)))
  refine call_e (new_ok xs hx) ?_
  (conv => whnf); (repeat (first | (refine arith_i ⟨by omega, by omega⟩ ?_; conv => whnf) | (refine need_i (by first | omega | (simp only [List.length_append, List.length_cons, List.length_nil]; omega)) ?_; conv => whnf) | ((with_reducible refine branch_tt ?_); conv => whnf) | ((with_reducible refine branch_ff ?_); conv => whnf) | (with_reducible refine branch_not ?_) | ((with_reducible refine slc_e ?_); conv => whnf) | ((with_reducible refine callS_a ?_); conv => whnf) | ((with_reducible refine bld_a ?_); conv => whnf) | ((with_reducible refine own_e ?_); conv => whnf) | ((with_reducible refine mkmap_b ?_); conv => whnf)))
  refine call_i (syllabus_ok 0 (by omega)) fun r hr => ?_
  obtain ⟨s, rfl, hs, hb⟩ := hr
  obtain ⟨b1, b2, b3⟩ := hb rfl
  have h0 := base_check b1 b2 b3
  obtain ⟨hl, hw⟩ := check_comps h0
  have L : (s.comps.map encCmp).length = s.comps.length := List.length_map ..
  have hall := sumN_le (f := wgt s) (b := 1000) (n := s.comps.length) (by omega) fun j _ => wgt_in hw j
  by_cases hW : allW s = 0
  · (conv => whnf); (repeat (first | (refine arith_i ⟨by omega, by omega⟩ ?_; conv => whnf) | (refine need_i (by first | omega | (simp only [List.length_append, List.length_cons, List.length_nil]; omega)) ?_; conv => whnf) | ((with_reducible refine branch_tt ?_); conv => whnf) | ((with_reducible refine branch_ff ?_); conv => whnf) | (with_reducible refine branch_not ?_) | ((with_reducible refine slc_e ?_); conv => whnf) | ((with_reducible refine callS_a ?_); conv => whnf) | ((with_reducible refine bld_a ?_); conv => whnf) | ((with_reducible refine own_e ?_); conv => whnf) | ((with_reducible refine mkmap_b ?_); conv => whnf)))
    refine loop_i (fun k : Nat => k ≤ s.comps.length) (fun k => mkSt [(3, .ptr 3 0), (4, .nil), (5, .int .i64 (sumN (wgt s) k)), (6, .int .i64 k)] [(3, sylC s)] true) (fun k => s.comps.length - k) 0 (Nat.zero_le _) (le_mk ⟨rfl, rfl, rfl, rfl, trivial⟩ ⟨rfl, trivial⟩ rfl) ?_
    intro k hk
    have hsum := sumN_le (f := wgt s) (b := 1000) (n := k) (by omega) fun j _ => wgt_in hw j
    (conv => whnf); (repeat (first | (refine arith_i ⟨by omega, by omega⟩ ?_; conv => whnf) | (refine need_i (by first | omega | (simp only [List.length_append, List.length_cons, List.length_nil]; omega)) ?_; conv => whnf) | ((with_reducible refine branch_tt ?_); conv => whnf) | ((with_reducible refine branch_ff ?_); conv => whnf) | (with_reducible refine branch_not ?_) | ((with_reducible refine slc_e ?_); conv => whnf) | ((with_reducible refine callS_a ?_); conv => whnf) | ((with_reducible refine bld_a ?_); conv => whnf) | ((with_reducible refine own_e ?_); conv => whnf) | ((with_reducible refine mkmap_b ?_); conv => whnf)))
    refine branch_d (fun h => ?_) (fun h => ?_)
    · (conv => whnf); (repeat (first | (refine arith_i ⟨by omega, by omega⟩ ?_; conv => whnf) | (refine need_i (by first | omega | (simp only [List.length_append, List.length_cons, List.length_nil]; omega)) ?_; conv => whnf) | ((with_reducible refine branch_tt ?_); conv => whnf) | ((with_reducible refine branch_ff ?_); conv => whnf) | (with_reducible refine branch_not ?_) | ((with_reducible refine slc_e ?_); conv => whnf) | ((with_reducible refine callS_a ?_); conv => whnf) | ((with_reducible refine bld_a ?_); conv => whnf) | ((with_reducible refine own_e ?_); conv => whnf) | ((with_reducible refine mkmap_b ?_); conv => whnf)))
      refine idx_m (by omega) (by omega) fun x hx => ?_
      rw [Int.toNat_natCast] at hx
      have hwx := hw k x hx
      have hG : Good Try.prog TT false 8 [sylV s, .int .i64 k] (· = .tup [.agg [.int .i64 0, .int .i64 0], .int .i64 10]) := by
        have := share_ok s hs k
        rwa [show shareF s k = (0, 0, 10) by rw [shareF, if_neg (by simp [h0]), if_neg (by omega), if_pos hW]] at this
      (conv => whnf); (repeat' (first | (refine arith_i ⟨by omega, by omega⟩ ?_; conv => whnf) | (refine arith_u ⟨by omega, by omega⟩ ?_; conv => whnf) | (refine arith_8 ⟨by omega, by omega⟩ ?_; conv => whnf) | (refine need_i (by first | omega | (simp only [List.length_append, List.length_cons, List.length_nil, List.length_map, List.length_replicate, List.length_modify]; omega)) ?_; conv => whnf) | ((with_reducible refine branch_tt ?_); conv => whnf) | ((with_reducible refine branch_ff ?_); conv => whnf) | (with_reducible refine branch_not ?_) | ((refine call_e hG ?_); conv => whnf) | ((with_reducible refine slc_e ?_); conv => whnf) | ((with_reducible refine callS_a ?_); conv => whnf) | ((with_reducible refine bld_a ?_); conv => whnf) | ((with_reducible refine own_e ?_); conv => whnf) | ((with_reducible refine mkmap_b ?_); conv => whnf) | ((with_reducible refine branch_d (fun hq => ?_) (fun hq => ?_)) <;> (try (exfalso; omega)) <;> (conv => whnf)) | ((with_reducible refine branch_e (fun hq => ?_) (fun hq => ?_)) <;> (try (exfalso; omega)) <;> (conv => whnf)) | ((with_reducible refine branch_n (fun hq => ?_) (fun hq => ?_)) <;> (try (exfalso; omega)) <;> (conv => whnf)) | ((with_reducible refine branch_i (fun hq => ?_) (fun hq => ?_)) <;> (try (exfalso; omega)) <;> (conv => whnf))))
      exact ⟨k + 1, by omega, le_mk ⟨rfl, rfl, int_eq (by rw [sumN, wgt_at hx]), rfl, trivial⟩ ⟨rfl, trivial⟩ rfl, by omega⟩
    · have hkn : k = s.comps.length := by omega
      subst hkn
      rw [show sumN (wgt s) s.comps.length = 0 from hW]
      (conv => whnf); (repeat' (first | (refine arith_i ⟨by omega, by omega⟩ ?_; conv => whnf) | (refine arith_u ⟨by omega, by omega⟩ ?_; conv => whnf) | (refine arith_8 ⟨by omega, by omega⟩ ?_; conv => whnf) | (refine need_i (by first | omega | (simp only [List.length_append, List.length_cons, List.length_nil, List.length_map, List.length_replicate, List.length_modify]; omega)) ?_; conv => whnf) | ((with_reducible refine branch_tt ?_); conv => whnf) | ((with_reducible refine branch_ff ?_); conv => whnf) | (with_reducible refine branch_not ?_) | ((refine call_e awake_ok ?_); conv => whnf) | ((with_reducible refine slc_e ?_); conv => whnf) | ((with_reducible refine callS_a ?_); conv => whnf) | ((with_reducible refine bld_a ?_); conv => whnf) | ((with_reducible refine own_e ?_); conv => whnf) | ((with_reducible refine mkmap_b ?_); conv => whnf) | ((with_reducible refine branch_d (fun hq => ?_) (fun hq => ?_)) <;> (try (exfalso; omega)) <;> (conv => whnf)) | ((with_reducible refine branch_e (fun hq => ?_) (fun hq => ?_)) <;> (try (exfalso; omega)) <;> (conv => whnf)) | ((with_reducible refine branch_n (fun hq => ?_) (fun hq => ?_)) <;> (try (exfalso; omega)) <;> (conv => whnf)) | ((with_reducible refine branch_i (fun hq => ?_) (fun hq => ?_)) <;> (try (exfalso; omega)) <;> (conv => whnf))))
      exact ret_p rfl rfl
  · have hp : 0 < allW s := by unfold allW at hW ⊢; omega
    have hp' : allW s ≤ 6000 := by unfold allW; omega
    obtain ⟨W, eW⟩ : ∃ W : Nat, allW s = W := ⟨(allW s).toNat, by omega⟩
    have hws : (wsOf s).length = s.comps.length := by simp [wsOf]
    (conv => whnf); (repeat (first | (refine arith_i ⟨by omega, by omega⟩ ?_; conv => whnf) | (refine need_i (by first | omega | (simp only [List.length_append, List.length_cons, List.length_nil]; omega)) ?_; conv => whnf) | ((with_reducible refine branch_tt ?_); conv => whnf) | ((with_reducible refine branch_ff ?_); conv => whnf) | (with_reducible refine branch_not ?_) | ((with_reducible refine slc_e ?_); conv => whnf) | ((with_reducible refine callS_a ?_); conv => whnf) | ((with_reducible refine bld_a ?_); conv => whnf) | ((with_reducible refine own_e ?_); conv => whnf) | ((with_reducible refine mkmap_b ?_); conv => whnf)))
    refine loop_i (fun k : Nat => k ≤ s.comps.length) (fun k => mkSt [(3, .ptr 3 0), (4, .own 200 35 2 ((((wsOf s).take k).map (shr W)).map encRt)), (5, .int .i64 (sumN (wgt s) k)), (6, .int .i64 k)] [(3, sylC s)] true) (fun k => s.comps.length - k) 0 (Nat.zero_le _) (Le.trans (le_adopt 4 200 35 2 rfl) (le_mk ⟨rfl, rfl, rfl, rfl, trivial⟩ ⟨rfl, trivial⟩ rfl)) ?_
    intro k hk
    have hsum := sumN_le (f := wgt s) (b := 1000) (n := k) (by omega) fun j _ => wgt_in hw j
    have L2 : ((((wsOf s).take k).map (shr W)).map encRt).length = k := by simp [hws]; omega
    (conv => whnf); (repeat (first | (refine arith_i ⟨by omega, by omega⟩ ?_; conv => whnf) | (refine need_i (by first | omega | (simp only [List.length_append, List.length_cons, List.length_nil]; omega)) ?_; conv => whnf) | ((with_reducible refine branch_tt ?_); conv => whnf) | ((with_reducible refine branch_ff ?_); conv => whnf) | (with_reducible refine branch_not ?_) | ((with_reducible refine slc_e ?_); conv => whnf) | ((with_reducible refine callS_a ?_); conv => whnf) | ((with_reducible refine bld_a ?_); conv => whnf) | ((with_reducible refine own_e ?_); conv => whnf) | ((with_reducible refine mkmap_b ?_); conv => whnf)))
    refine branch_d (fun h => ?_) (fun h => ?_)
    · (conv => whnf); (repeat (first | (refine arith_i ⟨by omega, by omega⟩ ?_; conv => whnf) | (refine need_i (by first | omega | (simp only [List.length_append, List.length_cons, List.length_nil]; omega)) ?_; conv => whnf) | ((with_reducible refine branch_tt ?_); conv => whnf) | ((with_reducible refine branch_ff ?_); conv => whnf) | (with_reducible refine branch_not ?_) | ((with_reducible refine slc_e ?_); conv => whnf) | ((with_reducible refine callS_a ?_); conv => whnf) | ((with_reducible refine bld_a ?_); conv => whnf) | ((with_reducible refine own_e ?_); conv => whnf) | ((with_reducible refine mkmap_b ?_); conv => whnf)))
      refine idx_m (by omega) (by omega) fun x hx => ?_
      rw [Int.toNat_natCast] at hx
      have hwx := hw k x hx
      have hG : Good Try.prog TT false 8 [sylV s, .int .i64 k] (· = .tup [.agg (encRt (shr W x.weight.toNat)), .int .i64 0]) := by
        have := share_ok s hs k
        rwa [show shareF s k = (((x.weight.toNat / Nat.gcd x.weight.toNat W : Nat) : Int), ((W / Nat.gcd x.weight.toNat W : Nat) : Int), 0) by rw [shareF, if_neg (by simp [h0]), if_neg (by omega), if_neg hW, Int.toNat_natCast, wgt_at hx, eW, Int.toNat_natCast]] at this
      (conv => whnf); (repeat' (first | (refine arith_i ⟨by omega, by omega⟩ ?_; conv => whnf) | (refine arith_u ⟨by omega, by omega⟩ ?_; conv => whnf) | (refine arith_8 ⟨by omega, by omega⟩ ?_; conv => whnf) | (refine need_i (by first | omega | (simp only [List.length_append, List.length_cons, List.length_nil, List.length_map, List.length_replicate, List.length_modify]; omega)) ?_; conv => whnf) | ((with_reducible refine branch_tt ?_); conv => whnf) | ((with_reducible refine branch_ff ?_); conv => whnf) | (with_reducible refine branch_not ?_) | ((refine call_e hG ?_); conv => whnf) | ((refine need_i (by simp only [L2, List.length_cons, List.length_nil]; omega) ?_); conv => whnf) | ((with_reducible refine slc_e ?_); conv => whnf) | ((with_reducible refine callS_a ?_); conv => whnf) | ((with_reducible refine bld_a ?_); conv => whnf) | ((with_reducible refine own_e ?_); conv => whnf) | ((with_reducible refine mkmap_b ?_); conv => whnf) | ((with_reducible refine branch_d (fun hq => ?_) (fun hq => ?_)) <;> (try (exfalso; omega)) <;> (conv => whnf)) | ((with_reducible refine branch_e (fun hq => ?_) (fun hq => ?_)) <;> (try (exfalso; omega)) <;> (conv => whnf)) | ((with_reducible refine branch_n (fun hq => ?_) (fun hq => ?_)) <;> (try (exfalso; omega)) <;> (conv => whnf)) | ((with_reducible refine branch_i (fun hq => ?_) (fun hq => ?_)) <;> (try (exfalso; omega)) <;> (conv => whnf))))
      exact ⟨k + 1, by omega, le_mk ⟨rfl, congrArg (AV.own 200 35 2) (shares_next hx).symm, int_eq (by rw [sumN, wgt_at hx]), rfl, trivial⟩ ⟨rfl, trivial⟩ rfl, by omega⟩
    · have hkn : k = s.comps.length := by omega
      subst hkn
      have hS := ws_sum hw (Nat.le_refl s.comps.length)
      rw [show sumN (wgt s) s.comps.length = W from eW] at hS
      have et : (wsOf s).take s.comps.length = wsOf s := by rw [← hws, List.take_length]
      rw [et] at hS L2 ⊢
      have hG := sum_ok (wsOf s) W (by omega) (by omega) (fun w hm => by
        obtain ⟨c, hc, rfl⟩ := List.mem_map.1 hm
        obtain ⟨j, hj⟩ := List.getElem?_of_mem hc
        have := hw j c hj
        omega) (by omega)
      rw [show sumN (wgt s) s.comps.length = W from eW]
      (conv => whnf); (repeat' (first | (refine arith_i ⟨by omega, by omega⟩ ?_; conv => whnf) | (refine arith_u ⟨by omega, by omega⟩ ?_; conv => whnf) | (refine arith_8 ⟨by omega, by omega⟩ ?_; conv => whnf) | (refine need_i (by first | omega | (simp only [List.length_append, List.length_cons, List.length_nil, List.length_map, List.length_replicate, List.length_modify]; omega)) ?_; conv => whnf) | ((with_reducible refine branch_tt ?_); conv => whnf) | ((with_reducible refine branch_ff ?_); conv => whnf) | (with_reducible refine branch_not ?_) | ((refine call_e awake_ok ?_); conv => whnf) | ((refine call_e hG ?_); conv => whnf) | ((refine eq_i guard_ratio (fun w => eq_ratio _ _ _ _ w) ?_); conv => whnf) | ((with_reducible refine slc_e ?_); conv => whnf) | ((with_reducible refine callS_a ?_); conv => whnf) | ((with_reducible refine bld_a ?_); conv => whnf) | ((with_reducible refine own_e ?_); conv => whnf) | ((with_reducible refine mkmap_b ?_); conv => whnf) | ((with_reducible refine branch_d (fun hq => ?_) (fun hq => ?_)) <;> (try (exfalso; omega)) <;> (conv => whnf)) | ((with_reducible refine branch_e (fun hq => ?_) (fun hq => ?_)) <;> (try (exfalso; omega)) <;> (conv => whnf)) | ((with_reducible refine branch_n (fun hq => ?_) (fun hq => ?_)) <;> (try (exfalso; omega)) <;> (conv => whnf)) | ((with_reducible refine branch_i (fun hq => ?_) (fun hq => ?_)) <;> (try (exfalso; omega)) <;> (conv => whnf))))
      all_goals first | exact ret_p rfl rfl | exact absurd hq (by decide)
end Go.Proofs.Ytkmagoljpfpgmaa
