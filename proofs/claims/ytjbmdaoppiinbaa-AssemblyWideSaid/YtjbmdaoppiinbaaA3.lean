/- Several texts in one: GL10a, GL09rep, GL09e, GL09f, GL09g, GL09h, GL09i, GL09j, GL10b, GL10c, GL08b2, GL10d, GBr. -/
import Derived.Test.YtjbmdaoppiinbaaA2
import Derived.Test.YtjbmdaoppiinbaaMC
import Derived.Test.YtjbmdaoppiinbaaA1
import Derived.Test.YtjbmdaoppiinbaaFrame
/- Layer 10: the closures of 'each' that add a row's coefficients and look at the sums. -/
section
namespace Go.Proofs.Ytjbmdaoppiinbaa
set_option linter.unusedVariables false
set_option linter.unusedSimpArgs false
set_option linter.unnecessarySimpa false
set_option linter.unusedSectionVars false
set_option maxRecDepth 10000
open Go.RowKit
def plGL10a_0 : Plan := (.take 0 (.take 1 (.take 2 (.take 3 (.take 4 (.take 5 (.take 6 (.take 7 (.take 8 (.take 9 (.take 10 (.take 11 (.take 12 (.take 13 (.take 14 (.take 15 .done))))))))))))))))
def plGL10a_1 : Plan := (.take 0 (.take 1 (.take 2 (.take 4 (.take 5 (.alt 3 (.take 6 (.take 7 (.take 9 (.take 12 (.alt 8 (.take 10 (.alt 11 (.alt 13 (.take 14 (.take 15 .done)) .stop) (.alt 13 (.alt 11 (.take 14 (.take 15 .done)) .stop) .stop))) (.alt 13 (.alt 8 (.take 10 (.alt 11 (.take 14 (.take 15 .done)) .stop)) .stop) .stop)))))) .stop))))))
def plGL10a_2 : Plan := (.take 1 (.take 4 (.alt 0 (.take 2 (.alt 3 (.alt 5 (.take 6 (.take 7 (.take 9 (.take 12 (.alt 8 (.take 10 (.alt 11 (.alt 13 (.take 14 (.take 15 .done)) .stop) (.alt 13 (.alt 11 (.take 14 (.take 15 .done)) .stop) .stop))) (.alt 13 (.alt 8 (.take 10 (.alt 11 (.take 14 (.take 15 .done)) .stop)) .stop) .stop)))))) .stop) (.alt 5 (.alt 3 (.take 6 (.take 7 (.take 9 (.take 12 (.alt 8 (.take 10 (.alt 11 (.alt 13 (.take 14 (.take 15 .done)) .stop) (.alt 13 (.alt 11 (.take 14 (.take 15 .done)) .stop) .stop))) (.alt 13 (.alt 8 (.take 10 (.alt 11 (.take 14 (.take 15 .done)) .stop)) .stop) .stop)))))) .stop) .stop))) (.alt 5 (.alt 0 (.take 2 (.alt 3 (.take 6 (.take 7 (.take 9 (.take 12 (.alt 8 (.take 10 (.alt 11 (.alt 13 (.take 14 (.take 15 .done)) .stop) (.alt 13 (.alt 11 (.take 14 (.take 15 .done)) .stop) .stop))) (.alt 13 (.alt 8 (.take 10 (.alt 11 (.take 14 (.take 15 .done)) .stop)) .stop) .stop)))))) .stop)) .stop) .stop))))
def plGL10a_3 : Plan := (.take 0 (.take 1 (.take 2 (.take 3 (.take 4 (.take 5 (.take 6 (.take 7 (.take 8 (.take 9 (.take 10 (.take 11 (.take 12 (.altE 13 .done .stop))))))))))))))
def plGL10a_4 : Plan := (.take 0 (.take 1 (.take 2 (.take 4 (.take 5 (.take 6 (.take 7 (.take 8 (.alt 3 (.alt 9 (.take 10 (.take 11 (.take 12 (.altE 13 .done .stop)))) .stop) (.alt 9 (.take 10 (.alt 3 (.take 11 (.take 12 (.altE 13 .done .stop))) .stop)) .stop))))))))))
def plGL10a_5 : Plan := (.take 1 (.take 4 (.take 5 (.take 7 (.alt 0 (.take 2 (.alt 3 (.alt 6 (.take 8 (.alt 9 (.take 10 (.take 11 (.take 12 (.alt 13 .done .stop)))) .stop)) .stop) (.alt 6 (.take 8 (.alt 3 (.alt 9 (.take 10 (.take 11 (.take 12 (.alt 13 .done .stop)))) .stop) (.alt 9 (.take 10 (.alt 3 (.take 11 (.take 12 (.alt 13 .done .stop))) .stop)) .stop))) .stop))) (.alt 6 (.take 8 (.alt 0 (.take 2 (.alt 3 (.alt 9 (.take 10 (.take 11 (.take 12 (.alt 13 .done .stop)))) .stop) (.alt 9 (.take 10 (.alt 3 (.take 11 (.take 12 (.alt 13 .done .stop))) .stop)) .stop))) (.alt 9 (.take 10 (.alt 0 (.take 2 (.alt 3 (.take 11 (.take 12 (.alt 13 .done .stop))) .stop)) .stop)) .stop))) .stop))))))
def sumsOkB (rows : List Row) (xs : List Int) : Bool := (List.range rows.length).all fun k => decide ((rowAt rows k).least ≤ nth xs k) && decide (nth xs k ≤ (rowAt rows k).most)
theorem sumsOk_bad {rows : List Row} {xs : List Int} {k : Nat} (hk : k < rows.length) (h : ¬ ((rowAt rows k).least ≤ nth xs k ∧ nth xs k ≤ (rowAt rows k).most)) : sumsOkB rows xs = false := by
  rw [← Bool.not_eq_true, sumsOkB, List.all_eq_true]
  intro hh
  have := hh k (List.mem_range.2 hk)
  simp only [Bool.and_eq_true, decide_eq_true_eq] at this
  exact h this
theorem sumsOk_good {rows : List Row} {xs : List Int} (h : ∀ k, k < rows.length → (rowAt rows k).least ≤ nth xs k ∧ nth xs k ≤ (rowAt rows k).most) : sumsOkB rows xs = true := by
  rw [sumsOkB, List.all_eq_true]
  intro k hk
  simp only [Bool.and_eq_true, decide_eq_true_eq]
  exact h k (List.mem_range.1 hk)
set_option maxHeartbeats 2000000 in
theorem met_ok (P : Prog) (xs : List Int) (hl : xs.length = P.rows.length) (hr : P.rows.length ≤ 60) : Good Try.prog TT false 20 [.ref [ints P.costs, rowsV P.rows], .ref [ints xs]] (· = .bool (sumsOkB P.rows xs)) := by
  have LR : (P.rows.map encRow).length = P.rows.length := List.length_map ..
  have LX : (xs.map encI).length = xs.length := List.length_map ..
  refine good_of mixed tabOk Try.func20 rfl rfl Try.ntmps20 Try.results20 rfl rfl ?_
  (conv => whnf); (repeat' (first | (refine arith_i ⟨by omega, by omega⟩ ?_; conv => whnf) | (refine arith_u ⟨by omega, by omega⟩ ?_; conv => whnf) | (refine arith_8 ⟨by omega, by omega⟩ ?_; conv => whnf) | (refine need_i (by first | omega | (simp only [List.length_cons, List.length_nil]; omega) | (simp only [List.length_append, List.length_cons, List.length_nil, List.length_map, List.length_replicate, List.length_modify]; omega)) ?_; conv => whnf) | ((with_reducible first | refine branch_tt ?_ | refine branch_ff ?_); conv => whnf) | (with_reducible refine branch_not ?_) | ((with_reducible first | refine slc_e ?_ | refine callS_a ?_ | refine bld_a ?_ | refine own_e ?_ | refine mkmap_b ?_); conv => whnf) | (refine draw_i 16 plGL10a_0 (by decide +kernel) ?_; (conv => whnf); fail_if_success (guard_target =~ False)) | (refine draw_i 16 plGL10a_1 (by decide +kernel) ?_; (conv => whnf); fail_if_success (guard_target =~ False)) | (refine draw_i 16 plGL10a_2 (by decide +kernel) ?_; (conv => whnf); fail_if_success (guard_target =~ False)) | ((with_reducible refine And.intro ?_ ?_) <;> (conv => whnf)) | (with_reducible exact trivial) | ((with_reducible first | refine branch_d (fun hq => ?_) (fun hq => ?_) | refine branch_e (fun hq => ?_) (fun hq => ?_) | refine branch_n (fun hq => ?_) (fun hq => ?_) | refine branch_i (fun hq => ?_) (fun hq => ?_)) <;> (try (exfalso; omega)) <;> (conv => whnf))))
  refine loop_i (fun k : Nat => k ≤ P.rows.length ∧ ∀ j, j < k → (rowAt P.rows j).least ≤ nth xs j ∧ nth xs j ≤ (rowAt P.rows j).most) (fun k => mkSt [(1, .ref [ints xs]), (6, rowsV P.rows), (7, .int .i64 (P.rows.map encRow).length), (8, .int .i64 k)] [] false) (fun k => P.rows.length - k) 0 ⟨Nat.zero_le _, nofun⟩ (le_mk (by repeat' (first | exact trivial | rfl | apply And.intro)) (by repeat' (first | exact trivial | rfl | apply And.intro)) rfl) ?_
  rintro k ⟨hk, hall⟩
  (conv => whnf); (repeat' (first | (refine arith_i ⟨by omega, by omega⟩ ?_; conv => whnf) | (refine arith_u ⟨by omega, by omega⟩ ?_; conv => whnf) | (refine arith_8 ⟨by omega, by omega⟩ ?_; conv => whnf) | (refine need_i (by first | omega | (simp only [List.length_cons, List.length_nil]; omega) | (simp only [List.length_append, List.length_cons, List.length_nil, List.length_map, List.length_replicate, List.length_modify]; omega)) ?_; conv => whnf) | ((with_reducible first | refine branch_tt ?_ | refine branch_ff ?_); conv => whnf) | (with_reducible refine branch_not ?_) | ((first | refine idx_cs (by assumption) ?_ | (refine idx_c (xs := P.rows) (by omega) fun r hrr => ?_; have hra := rowAt_eq hrr) | (refine idx_c (xs := xs) (by omega) fun x hx => ?_; have hxa := nth_eq hx)); conv => whnf) | ((with_reducible first | refine slc_e ?_ | refine callS_a ?_ | refine bld_a ?_ | refine own_e ?_ | refine mkmap_b ?_); conv => whnf) | (refine draw_i 16 plGL10a_0 (by decide +kernel) ?_; (conv => whnf); fail_if_success (guard_target =~ False)) | (refine draw_i 16 plGL10a_1 (by decide +kernel) ?_; (conv => whnf); fail_if_success (guard_target =~ False)) | (refine draw_i 16 plGL10a_2 (by decide +kernel) ?_; (conv => whnf); fail_if_success (guard_target =~ False)) | ((with_reducible refine And.intro ?_ ?_) <;> (conv => whnf)) | (with_reducible exact trivial) | ((with_reducible first | refine branch_d (fun hq => ?_) (fun hq => ?_) | refine branch_e (fun hq => ?_) (fun hq => ?_) | refine branch_n (fun hq => ?_) (fun hq => ?_) | refine branch_i (fun hq => ?_) (fun hq => ?_)) <;> (try (exfalso; omega)) <;> (conv => whnf))))
  all_goals first
    | (refine ret_p rfl (bool_eq ?_); symm; exact sumsOk_bad (k := k) (by omega) (by rw [hra, hxa]; omega))
    | (refine ⟨k + 1, ⟨by omega, fun j hj => ?_⟩, (le_mk (by repeat' (first | exact trivial | rfl | apply And.intro)) (by repeat' (first | exact trivial | rfl | apply And.intro)) rfl), by omega⟩
       by_cases e : j = k
       · subst e; rw [hra, hxa]; omega
       · exact hall j (by omega))
    | (refine ret_p rfl (bool_eq ?_); symm; exact sumsOk_good fun j hj => hall j (by omega))
def addF (rows : List Row) (xs : List Int) (o t : Int) : List Int := (List.range xs.length).map fun j => nth xs j + t * nth (rowAt rows j).coefs o.toNat
theorem addF_len {rows : List Row} {xs : List Int} {o t : Int} : (addF rows xs o t).length = xs.length := by simp [addF]
theorem addF_nth {rows : List Row} {xs : List Int} {o t : Int} {j : Nat} (h : j < xs.length) : nth (addF rows xs o t) j = nth xs j + t * nth (rowAt rows j).coefs o.toNat := by
  simp [addF, nth, List.getD_eq_getElem?_getD, h]
set_option maxHeartbeats 2000000 in
theorem add_ok (P : Prog) (xs : List Int) (o t : Int) (hv : validB P = true) (ho : 0 ≤ o ∧ o < P.costs.length) (ht : t = 1 ∨ t = -1) (hx : ∀ j, j < xs.length → -1000000 ≤ nth xs j ∧ nth xs j ≤ 1000000) (hl : xs.length = P.rows.length) : GoodM Try.prog TT false 19 [.int .i64 o, .int .i64 t, .ptr 1000 0, .ptr 1001 0] [(1000, [ints P.costs, rowsV P.rows]), (1001, [.own 1101 3 1 (xs.map encI)])]
    (fun r ov bx => r = .tup [] ∧ ov = [] ∧ bx = [(1000, [ints P.costs, rowsV P.rows]), (1001, [.own 1101 3 1 ((addF P.rows xs o t).map encI)])]) := by
  have LR : (P.rows.map encRow).length = P.rows.length := List.length_map ..
  have hr := (validB_parts hv).2.1
  refine good_of_m (fun _ => false) mixed tabOk Try.func19 rfl rfl Try.ntmps19 Try.results19 rfl rfl ?_
  (conv => whnf); (repeat' (first | (refine arith_i ⟨by omega, by omega⟩ ?_; conv => whnf) | (refine arith_u ⟨by omega, by omega⟩ ?_; conv => whnf) | (refine arith_8 ⟨by omega, by omega⟩ ?_; conv => whnf) | (refine need_i (by first | omega | (simp only [List.length_cons, List.length_nil]; omega) | (simp only [List.length_append, List.length_cons, List.length_nil, List.length_map, List.length_replicate, List.length_modify]; omega)) ?_; conv => whnf) | ((with_reducible first | refine branch_tt ?_ | refine branch_ff ?_); conv => whnf) | (with_reducible refine branch_not ?_) | ((with_reducible first | refine slc_e ?_ | refine callS_a ?_ | refine bld_a ?_ | refine own_e ?_ | refine mkmap_b ?_); conv => whnf) | (refine draw_i 14 plGL10a_3 (by decide +kernel) ?_; (conv => whnf); fail_if_success (guard_target =~ False)) | (refine draw_i 14 plGL10a_4 (by decide +kernel) ?_; (conv => whnf); fail_if_success (guard_target =~ False)) | (refine draw_i 13 plGL10a_5 (by decide +kernel) ?_; (conv => whnf); fail_if_success (guard_target =~ False)) | ((with_reducible refine And.intro ?_ ?_) <;> (conv => whnf)) | (with_reducible exact trivial) | ((with_reducible first | refine branch_d (fun hq => ?_) (fun hq => ?_) | refine branch_e (fun hq => ?_) (fun hq => ?_) | refine branch_n (fun hq => ?_) (fun hq => ?_) | refine branch_i (fun hq => ?_) (fun hq => ?_)) <;> (try (exfalso; omega)) <;> (conv => whnf))))
  refine loop_i2 (fun (k : Nat) (ys : List Int) => k ≤ P.rows.length ∧ ys.length = xs.length ∧ (∀ j, j < k → nth ys j = nth xs j + t * nth (rowAt P.rows j).coefs o.toNat) ∧ ∀ j, k ≤ j → nth ys j = nth xs j) (fun k ys => mkSt [(0, .int .i64 o), (1, .int .i64 t), (3, .ptr 1001 0), (9, rowsV P.rows), (10, .int .i64 (P.rows.map encRow).length), (11, .int .i64 k)] [(1000, [ints P.costs, rowsV P.rows]), (1001, [.own 1101 3 1 (ys.map encI)])] false) (fun k _ => P.rows.length - k) 0 xs ⟨Nat.zero_le _, rfl, nofun, fun _ _ => rfl⟩ (le_mk (by repeat' (first | exact trivial | rfl | apply And.intro)) (by repeat' (first | exact trivial | rfl | apply And.intro)) rfl) ?_
  rintro k ys ⟨hk, hyl, hd, hn⟩
  have LY : (ys.map encI).length = ys.length := List.length_map ..
  (conv => whnf); (repeat' (first | (refine arith_i ⟨by omega, by omega⟩ ?_; conv => whnf) | (refine arith_u ⟨by omega, by omega⟩ ?_; conv => whnf) | (refine arith_8 ⟨by omega, by omega⟩ ?_; conv => whnf) | (refine need_i (by first | omega | (simp only [List.length_cons, List.length_nil]; omega) | (simp only [List.length_append, List.length_cons, List.length_nil, List.length_map, List.length_replicate, List.length_modify]; omega)) ?_; conv => whnf) | ((with_reducible first | refine branch_tt ?_ | refine branch_ff ?_); conv => whnf) | (with_reducible refine branch_not ?_) | ((first | refine idx_cs (by assumption) ?_ | (refine idx_c (xs := P.rows) (by omega) fun r hrr => ?_; have hra := rowAt_eq hrr; have hvr := valid_rows hv (List.mem_of_getElem? hrr); have LC : (r.coefs.map encI).length = r.coefs.length := List.length_map ..) | (refine idx_c (xs := ys) (by omega) fun y hy => ?_; have hya := nth_eq hy; have hyb := hn k (Nat.le_refl _); have hxb := hx k (by omega)) | (refine idx_m (xs := r.coefs) (by omega) (by omega) fun c hc => ?_; have hca := nth_eq hc; have hcb := hvr.2.1 o.toNat (by omega); have hm : t * c = c ∨ t * c = -c := by {rcases ht with e | e <;> subst e <;> omega})); conv => whnf) | ((with_reducible first | refine slc_e ?_ | refine callS_a ?_ | refine bld_a ?_ | refine own_e ?_ | refine mkmap_b ?_); conv => whnf) | (refine draw_i 14 plGL10a_4 (by decide +kernel) ?_; (conv => whnf); fail_if_success (guard_target =~ False)) | (refine draw_i 13 plGL10a_5 (by decide +kernel) ?_; (conv => whnf); fail_if_success (guard_target =~ False)) | (refine draw_i 14 plGL10a_3 (by decide +kernel) ?_; (conv => whnf); fail_if_success (guard_target =~ False)) | ((with_reducible refine And.intro ?_ ?_) <;> (conv => whnf)) | (with_reducible exact trivial) | ((with_reducible first | refine branch_d (fun hq => ?_) (fun hq => ?_) | refine branch_e (fun hq => ?_) (fun hq => ?_) | refine branch_n (fun hq => ?_) (fun hq => ?_) | refine branch_i (fun hq => ?_) (fun hq => ?_)) <;> (try (exfalso; omega)) <;> (conv => whnf))))
  all_goals first
    | (obtain rfl : ys = addF P.rows xs o t := nth_ext (by rw [addF_len]; exact hyl) fun j hj => by rw [hd j (by omega), addF_nth (by omega)]
       exact retM_i (.tup []) [] [(1000, [ints P.costs, rowsV P.rows]), (1001, [.own 1101 3 1 ((addF P.rows xs o t).map encI)])] rfl (le_mk (by repeat' (first | exact trivial | rfl | apply And.intro)) (by repeat' (first | exact trivial | rfl | apply And.intro)) rfl) rfl ⟨rfl, rfl, rfl⟩)
    | (refine ⟨k + 1, ys.set k (y + t * c), ⟨by omega, by simp; exact hyl, fun j hj => ?_, fun j hj => ?_⟩, le_mk ⟨rfl, rfl, rfl, rfl, rfl, rfl, trivial⟩ ⟨rfl, by rw [← encI_set]; rfl, trivial⟩ rfl, by omega⟩
       · rw [nth_set]
         by_cases e : j = k
         · subst e
           rw [if_pos ⟨rfl, by omega⟩, hra, hca, ← hya, hyb]
         · rw [if_neg (fun h => e h.1)]; exact hd j (by omega)
       · rw [nth_set, if_neg (fun h => by omega)]; exact hn j (by omega))
end Go.Proofs.Ytjbmdaoppiinbaa
end

/- slices.Repeat, bits.Mul with small numbers. -/
section
namespace Go.Proofs.Ytjbmdaoppiinbaa
set_option linter.unusedVariables false
set_option linter.unusedSimpArgs false
set_option linter.unnecessarySimpa false
set_option linter.unusedSectionVars false
set_option maxRecDepth 10000
open Go.RowKit
def plGL09rep_0 : Plan := (.take 0 (.take 1 (.take 2 (.take 4 (.take 5 (.alt 3 (.alt 6 (.alt 7 (.take 8 (.take 9 .done)) .stop) .stop) (.alt 6 (.alt 3 (.alt 7 (.take 8 (.take 9 .done)) .stop) .stop) .stop)))))))
theorem and_mask {n : Int} (h : 0 ≤ n ∧ n ≤ 1000) : IntKind.wrap .u64 ((BitVec.ofInt IntKind.u64.bits n &&& BitVec.ofInt IntKind.u64.bits 4294967295).toNat : Int) = n := by
  obtain ⟨m, rfl⟩ : ∃ m : Nat, n = m := ⟨n.toNat, by omega⟩
  have hm : m ≤ 1000 := by omega
  have e1 : (BitVec.ofInt IntKind.u64.bits (m : Int)).toNat = m := by
    show (BitVec.ofInt 64 (m : Int)).toNat = m
    rw [BitVec.toNat_ofInt]; omega
  have e2 : (BitVec.ofInt IntKind.u64.bits 4294967295).toNat = 2 ^ 32 - 1 := by decide
  rw [BitVec.toNat_and, e1, e2, Nat.and_two_pow_sub_one_eq_mod, Nat.mod_eq_of_lt (by omega)]
  show ((m : Int) % 18446744073709551616) = m
  omega
theorem shr32 {n : Int} (h : 0 ≤ n ∧ n ≤ 1000) : n.fdiv (2 ^ min (32 : Int).toNat IntKind.u64.bits) = 0 := by
  show n.fdiv 4294967296 = 0
  rw [Int.fdiv_eq_ediv_of_nonneg _ (by omega)]
  omega
theorem mul64_ok (n : Int) (h : 0 ≤ n ∧ n ≤ 1000) : Good Try.prog TT false 41 [.int .u64 1, .int .u64 n] (· = .tup [.int .u64 0, .int .u64 n]) := by
  have a1 := and_mask (n := 1) (by omega)
  have a0 := and_mask (n := 0) (by omega)
  have an := and_mask h
  have s1 := shr32 (n := 1) (by omega)
  have s0 := shr32 (n := 0) (by omega)
  have sn := shr32 h
  refine good_of mixed tabOk Try.func41 rfl rfl Try.ntmps41 Try.results41 rfl rfl ?_
  (conv => whnf); (repeat' (first | (refine arith_i ⟨by omega, by omega⟩ ?_; conv => whnf) | (refine arith_u ⟨by omega, by omega⟩ ?_; conv => whnf) | (refine arith_8 ⟨by omega, by omega⟩ ?_; conv => whnf) | (refine need_i (by first | omega | (simp only [List.length_cons, List.length_nil]; omega) | (simp only [List.length_append, List.length_cons, List.length_nil, List.length_map, List.length_replicate, List.length_modify]; omega)) ?_; conv => whnf) | ((with_reducible first | refine branch_tt ?_ | refine branch_ff ?_); conv => whnf) | (with_reducible refine branch_not ?_) | ((simp only [a1, a0, an, s1, s0, sn, Int.one_mul, Int.zero_mul, Int.mul_zero, Int.add_zero, Int.zero_add]); conv => whnf) | ((with_reducible first | refine slc_e ?_ | refine callS_a ?_ | refine bld_a ?_ | refine own_e ?_ | refine mkmap_b ?_); conv => whnf) | ((with_reducible first | refine branch_d (fun hq => ?_) (fun hq => ?_) | refine branch_e (fun hq => ?_) (fun hq => ?_) | refine branch_n (fun hq => ?_) (fun hq => ?_) | refine branch_i (fun hq => ?_) (fun hq => ?_)) <;> (try (exfalso; omega)) <;> (conv => whnf))))
  exact ret_t (rs := [.int .u64 0, .int .u64 n]) ⟨(rc_p rfl).g, (rc_p rfl).g, trivial⟩ rfl
theorem mul_ok (n : Int) (h : 0 ≤ n ∧ n ≤ 1000) : Good Try.prog TT false 32 [.int .u64 1, .int .u64 n] (· = .tup [.int .u64 0, .int .u64 n]) := by
  refine good_of mixed tabOk Try.func32 rfl rfl Try.ntmps32 Try.results32 rfl rfl ?_
  (conv => whnf); (repeat' (first | (refine arith_i ⟨by omega, by omega⟩ ?_; conv => whnf) | (refine arith_u ⟨by omega, by omega⟩ ?_; conv => whnf) | (refine arith_8 ⟨by omega, by omega⟩ ?_; conv => whnf) | (refine need_i (by first | omega | (simp only [List.length_cons, List.length_nil]; omega) | (simp only [List.length_append, List.length_cons, List.length_nil, List.length_map, List.length_replicate, List.length_modify]; omega)) ?_; conv => whnf) | ((with_reducible first | refine branch_tt ?_ | refine branch_ff ?_); conv => whnf) | (with_reducible refine branch_not ?_) | ((refine call_e (mul64_ok n h) ?_); conv => whnf) | ((with_reducible first | refine slc_e ?_ | refine callS_a ?_ | refine bld_a ?_ | refine own_e ?_ | refine mkmap_b ?_); conv => whnf) | ((with_reducible first | refine branch_d (fun hq => ?_) (fun hq => ?_) | refine branch_e (fun hq => ?_) (fun hq => ?_) | refine branch_n (fun hq => ?_) (fun hq => ?_) | refine branch_i (fun hq => ?_) (fun hq => ?_)) <;> (try (exfalso; omega)) <;> (conv => whnf))))
  exact ret_t (rs := [.int .u64 0, .int .u64 n]) ⟨(rc_p rfl).g, (rc_p rfl).g, trivial⟩ rfl
def repC (k n : Nat) : List (List AV) := List.replicate k [AV.int .i64 (-1)] ++ List.replicate (n - k) [AV.int .i64 0]
theorem repC_len {k n : Nat} (h : k ≤ n) : (repC k n).length = n := by simp [repC]; omega
theorem repC_take {k n : Nat} : (repC k n).take k = List.replicate k [AV.int .i64 (-1)] := by simp [repC]
theorem repC_spl {k n m : Nat} (h : k + m ≤ n) (hm : m ≤ k) : spl (repC k n) k ((List.replicate k [AV.int .i64 (-1)]).take m) = repC (k + m) n := by
  have e1 : (List.replicate k [AV.int .i64 (-1)]).take m = List.replicate m [AV.int .i64 (-1)] := by rw [List.take_replicate, Nat.min_eq_left hm]
  have e2 : (repC k n).drop (k + m) = List.replicate (n - (k + m)) [AV.int .i64 0] := by
    rw [repC, List.drop_append, List.length_replicate, List.drop_of_length_le (by simp), List.nil_append, List.drop_replicate]
    congr 1
    omega
  rw [spl, repC_take, e1, List.length_replicate, e2, ← List.append_assoc, List.replicate_append_replicate]
  rfl
theorem repC_first {n : Nat} (h : 0 < n) : spl (List.replicate n [AV.int .i64 0]) 0 ([[AV.int .i64 (-1)]].take n) = repC 1 n := by
  obtain ⟨m, rfl⟩ : ∃ m, n = m + 1 := ⟨n - 1, by omega⟩
  simp [spl, repC, List.replicate_succ]
theorem sub_lo {k n : Nat} {K : List (List AV) → Prop} (h : k ≤ n) (hK : K (List.replicate (n - k) [AV.int .i64 0])) : sub (repC k n) (k : Int) ((repC k n).length : Int) K := by
  have L := repC_len h
  refine sub_i ⟨by omega, by omega, by omega⟩ ?_
  have e : ((repC k n).take ((repC k n).length : Int).toNat).drop (k : Int).toNat = List.replicate (n - k) [AV.int .i64 0] := by
    rw [Int.toNat_natCast, Int.toNat_natCast, List.take_length, repC, List.drop_append]; simp
  rw [e]; exact hK
theorem sub_hi {k n : Nat} {K : List (List AV) → Prop} (h : k ≤ n) (hK : K (List.replicate k [AV.int .i64 (-1)])) : sub (repC k n) 0 (k : Int) K := by
  have L := repC_len h
  refine sub_i ⟨by omega, by omega, by omega⟩ ?_
  have e : ((repC k n).take (k : Int).toNat).drop (0 : Int).toNat = List.replicate k [AV.int .i64 (-1)] := by
    rw [Int.toNat_natCast, repC_take]; simp
  rw [e]; exact hK
theorem repC_full (n : Nat) : repC n n = (List.replicate n (-1 : Int)).map encI := by simp [repC, encI]
theorem repeat_ok (n : Nat) (hn : n ≤ 12) : Good Try.prog TT false 22 [ints [-1], .int .i64 n] (· = .own 0 3 1 ((List.replicate n (-1 : Int)).map encI)) := by
  have L1 : (List.map encI [-1]).length = 1 := rfl
  have LR : (List.replicate (n : Int).toNat [AV.int .i64 0]).length = n := by simp
  have eN : (n : Int).toNat = n := by omega
  refine good_of mixed tabOk Try.func22 rfl rfl Try.ntmps22 Try.results22 rfl rfl ?_
  (conv => whnf); (repeat' (first | (refine arith_i ⟨by omega, by omega⟩ ?_; conv => whnf) | (refine arith_u ⟨by omega, by omega⟩ ?_; conv => whnf) | (refine arith_8 ⟨by omega, by omega⟩ ?_; conv => whnf) | (refine need_i (by first | omega | (simp only [List.length_cons, List.length_nil]; omega) | (simp only [List.length_append, List.length_cons, List.length_nil, List.length_map, List.length_replicate, List.length_modify]; omega)) ?_; conv => whnf) | ((with_reducible first | refine branch_tt ?_ | refine branch_ff ?_); conv => whnf) | (with_reducible refine branch_not ?_) | ((refine call_e (mul_ok n (by omega)) ?_); conv => whnf) | ((with_reducible first | refine slc_e ?_ | refine callS_a ?_ | refine bld_a ?_ | refine own_e ?_ | refine mkmap_b ?_); conv => whnf) | (refine draw_i 10 plGL09rep_0 (by decide +kernel) ?_; (conv => whnf); fail_if_success (guard_target =~ False)) | ((with_reducible refine And.intro ?_ ?_) <;> (conv => whnf)) | (with_reducible exact trivial) | ((with_reducible first | refine branch_d (fun hq => ?_) (fun hq => ?_) | refine branch_e (fun hq => ?_) (fun hq => ?_) | refine branch_n (fun hq => ?_) (fun hq => ?_) | refine branch_i (fun hq => ?_) (fun hq => ?_)) <;> (try (exfalso; omega)) <;> (conv => whnf))))
  · refine loop_i (fun k : Nat => 1 ≤ k ∧ k ≤ n) (fun k => mkSt [(7, .own 30 3 1 (repC k n)), (8, .int .i64 k)] [] false) (fun k => n - k) 1 ⟨by omega, by omega⟩ (le_mk ⟨?_, int_eq (by rw [L1, LR]; omega), trivial⟩ trivial rfl) ?_
    · rw [← repC_first (by omega)]
      conv => rhs; rw [← eN]
      show AV.own 30 3 1 (spl (List.replicate (n : Int).toNat [AV.int .i64 0]) 0 ((List.map encI [-1]).take (List.replicate (n : Int).toNat [AV.int .i64 0]).length)) = _
      rw [LR, eN]; rfl
    rintro k ⟨h1, h2⟩
    have LC := repC_len h2
    have LZ : (List.replicate (n - k) [AV.int .i64 0]).length = n - k := by simp
    have LA : (List.replicate k [AV.int .i64 (-1)]).length = k := by simp
    (conv => whnf); (repeat' (first | (refine arith_i ⟨by omega, by omega⟩ ?_; conv => whnf) | (refine arith_u ⟨by omega, by omega⟩ ?_; conv => whnf) | (refine arith_8 ⟨by omega, by omega⟩ ?_; conv => whnf) | (refine need_i (by first | omega | (simp only [List.length_cons, List.length_nil]; omega) | (simp only [List.length_append, List.length_cons, List.length_nil, List.length_map, List.length_replicate, List.length_modify]; omega)) ?_; conv => whnf) | ((with_reducible first | refine branch_tt ?_ | refine branch_ff ?_); conv => whnf) | (with_reducible refine branch_not ?_) | ((refine slc_w ?_); conv => whnf) | ((refine sub_lo h2 ?_); conv => whnf) | ((refine sub_hi h2 ?_); conv => whnf) | ((with_reducible first | refine slc_e ?_ | refine callS_a ?_ | refine bld_a ?_ | refine own_e ?_ | refine mkmap_b ?_); conv => whnf) | (refine draw_i 10 plGL09rep_0 (by decide +kernel) ?_; (conv => whnf); fail_if_success (guard_target =~ False)) | ((with_reducible refine And.intro ?_ ?_) <;> (conv => whnf)) | (with_reducible exact trivial) | ((with_reducible first | refine branch_d (fun hq => ?_) (fun hq => ?_) | refine branch_e (fun hq => ?_) (fun hq => ?_) | refine branch_n (fun hq => ?_) (fun hq => ?_) | refine branch_i (fun hq => ?_) (fun hq => ?_)) <;> (try (exfalso; omega)) <;> (conv => whnf))))
    all_goals first
      | (refine ⟨k + min k (n - k), ⟨by omega, by omega⟩, le_mk ⟨?_, int_eq (by rw [LZ, LA]; omega), trivial⟩ trivial rfl, by omega⟩
         rw [← repC_spl (m := min k (n - k)) (by omega) (by omega)]
         show AV.own 30 3 1 (spl (repC k n) (k : Int).toNat ((List.replicate k [AV.int .i64 (-1)]).take (List.replicate (n - k) [AV.int .i64 0]).length)) = _
         rw [LZ, Int.toNat_natCast, show (List.replicate k [AV.int .i64 (-1)]).take (n - k) = (List.replicate k [AV.int .i64 (-1)]).take (min k (n - k)) by rw [List.take_replicate, List.take_replicate]; congr 1; omega])
      | (have hk : k = n := by omega
         subst hk
         exact ret_o (by rw [repC_full]))
  · have h0 : n = 0 := by omega
    subst h0
    refine loop_i (fun _ : Unit => True) (fun _ => mkSt [(7, .own 30 3 1 []), (8, .int .i64 0)] [] false) (fun _ => 0) () trivial (le_mk (by repeat' (first | exact trivial | rfl | apply And.intro)) (by repeat' (first | exact trivial | rfl | apply And.intro)) rfl) ?_
    intro _ _
    have L0 : ([] : List (List AV)).length = 0 := rfl
    (conv => whnf); (repeat' (first | (refine arith_i ⟨by omega, by omega⟩ ?_; conv => whnf) | (refine arith_u ⟨by omega, by omega⟩ ?_; conv => whnf) | (refine arith_8 ⟨by omega, by omega⟩ ?_; conv => whnf) | (refine need_i (by first | omega | (simp only [List.length_cons, List.length_nil]; omega) | (simp only [List.length_append, List.length_cons, List.length_nil, List.length_map, List.length_replicate, List.length_modify]; omega)) ?_; conv => whnf) | ((with_reducible first | refine branch_tt ?_ | refine branch_ff ?_); conv => whnf) | (with_reducible refine branch_not ?_) | ((with_reducible first | refine slc_e ?_ | refine callS_a ?_ | refine bld_a ?_ | refine own_e ?_ | refine mkmap_b ?_); conv => whnf) | (refine draw_i 10 plGL09rep_0 (by decide +kernel) ?_; (conv => whnf); fail_if_success (guard_target =~ False)) | ((with_reducible refine And.intro ?_ ?_) <;> (conv => whnf)) | (with_reducible exact trivial) | ((with_reducible first | refine branch_d (fun hq => ?_) (fun hq => ?_) | refine branch_e (fun hq => ?_) (fun hq => ?_) | refine branch_n (fun hq => ?_) (fun hq => ?_) | refine branch_i (fun hq => ?_) (fun hq => ?_)) <;> (try (exfalso; omega)) <;> (conv => whnf))))
    exact ret_o rfl
end Go.Proofs.Ytjbmdaoppiinbaa
end

/- Layer 9, the reference by the interpreter: row, Bound, leaf. -/
section
namespace Go.Proofs.Ytjbmdaoppiinbaa
set_option linter.unusedVariables false
set_option linter.unusedSimpArgs false
set_option linter.unnecessarySimpa false
set_option linter.unusedSectionVars false
set_option maxRecDepth 10000
open Go.RowKit

def rowOk9 (rows : Nat) (n : Nd) : Bool := decide ((n.row = -1 ∧ n.num = 0 ∧ n.den = 1) ∨ (n.row ≠ -1 ∧ 0 ≤ n.row ∧ n.row < rows ∧ -10000 ≤ n.num ∧ n.num ≤ 10000 ∧ 1 ≤ n.den ∧ n.den ≤ 10000))
theorem bnd_row (rows : Nat) (n : Nd) : bndB rows n = (decide (n.kind = 3) && rowOk9 rows n) := by
  rw [Bool.eq_iff_iff]
  unfold bndB rowOk9
  split <;> simp <;> omega
end Go.Proofs.Ytjbmdaoppiinbaa
end

/- Layer 9: the generator of programs, also with a mistake. -/
section
namespace Go.Proofs.Ytjbmdaoppiinbaa
set_option linter.unusedVariables false
set_option linter.unusedSimpArgs false
set_option linter.unnecessarySimpa false
set_option linter.unusedSectionVars false
set_option maxRecDepth 10000
open Go.RowKit
/-- Any program that the tape makes: small. -/
def Small (P : Prog) : Prop := P.costs.length ≤ 100 ∧ P.rows.length ≤ 10 ∧ ∀ r ∈ P.rows, r.coefs.length ≤ 100
end Go.Proofs.Ytjbmdaoppiinbaa
end

/- Layer 9: the generators Bent, Leaf, State. -/
section
namespace Go.Proofs.Ytjbmdaoppiinbaa
set_option linter.unusedVariables false
set_option linter.unusedSimpArgs false
set_option linter.unnecessarySimpa false
set_option linter.unusedSectionVars false
set_option maxRecDepth 10000
open Go.RowKit
theorem map_modify {α : Type} {enc : α → List AV} {f : List AV → List AV} {g : α → α} (h : ∀ x, f (enc x) = enc (g x)) : ∀ (l : List α) (i : Nat), (l.map enc).modify i f = (l.modify i g).map enc
  | [], i => by simp
  | x :: l, 0 => by simp [List.modify_zero_cons, h]
  | x :: l, i + 1 => by simp only [List.map_cons, List.modify_succ_cons, map_modify h l i]
/-- What the tape makes a leaf: a dead row, or some bound. -/
def LeafG (P : Prog) (st : List Int) (n : Nd) : Prop := (n.kind = 2 ∧ n.row = deadF P st ∧ 0 ≤ deadF P st) ∨ n.kind = 3
end Go.Proofs.Ytjbmdaoppiinbaa
end

/- Layer 9: States. -/
section
namespace Go.Proofs.Ytjbmdaoppiinbaa
set_option linter.unusedVariables false
set_option linter.unusedSimpArgs false
set_option linter.unnecessarySimpa false
set_option linter.unusedSectionVars false
set_option maxRecDepth 10000
open Go.RowKit
def plGL09h_0 : Plan := (.take 0 (.take 1 (.take 3 (.take 4 (.take 5 (.alt 2 (.alt 6 (.take 7 (.altE 8 (.take 9 (.altE 10 .done .stop)) .stop)) .stop) .stop))))))
def plGL09h_1 : Plan := (.take 0 (.take 3 (.alt 1 (.alt 2 (.alt 4 (.take 5 (.alt 6 (.take 7 (.alt 8 (.take 9 (.alt 10 .done .stop)) .stop)) .stop)) .stop) (.alt 4 (.take 5 (.alt 2 (.alt 6 (.take 7 (.alt 8 (.take 9 (.alt 10 .done .stop)) .stop)) .stop) .stop)) .stop)) (.alt 2 (.alt 1 (.alt 4 (.take 5 (.alt 6 (.take 7 (.alt 8 (.take 9 (.alt 10 .done .stop)) .stop)) .stop)) .stop) (.alt 4 (.take 5 (.alt 1 (.alt 6 (.take 7 (.alt 8 (.take 9 (.alt 10 .done .stop)) .stop)) .stop) (.alt 6 (.take 7 (.alt 1 (.alt 8 (.take 9 (.alt 10 .done .stop)) .stop) (.alt 8 (.alt 1 (.take 9 (.alt 10 .done .stop)) .stop) .stop))) .stop))) .stop)) (.alt 4 (.take 5 (.alt 1 (.alt 2 (.alt 6 (.take 7 (.alt 8 (.take 9 (.alt 10 .done .stop)) .stop)) .stop) .stop) (.alt 2 (.alt 1 (.alt 6 (.take 7 (.alt 8 (.take 9 (.alt 10 .done .stop)) .stop)) .stop) (.alt 6 (.take 7 (.alt 1 (.alt 8 (.take 9 (.alt 10 .done .stop)) .stop) (.alt 8 (.alt 1 (.take 9 (.alt 10 .done .stop)) .stop) .stop))) .stop)) .stop))) .stop)))))
def plGL09h_2 : Plan := (.take 0 (.take 1 (.take 2 (.take 3 (.take 4 (.take 5 (.take 6 (.take 7 (.take 8 (.take 9 (.take 10 (.take 11 (.take 12 (.take 13 (.take 14 (.take 15 (.take 16 (.take 17 (.take 18 (.take 19 (.take 20 (.take 21 .done))))))))))))))))))))))
def plGL09h_3 : Plan := (.take 0 (.take 1 (.take 2 (.take 3 (.take 4 (.take 5 (.take 6 (.take 7 (.take 8 (.take 9 (.take 10 (.take 11 (.take 12 (.take 13 (.take 14 (.take 16 (.take 17 (.alt 15 (.take 18 (.alt 19 (.take 20 (.take 21 .done)) .stop)) .stop))))))))))))))))))
def plGL09h_4 : Plan := (.take 0 (.alt 1 (.take 2 (.take 3 (.take 4 (.take 6 (.alt 5 (.alt 7 (.take 8 (.take 9 (.take 10 (.take 11 (.take 12 (.take 13 (.take 14 (.take 16 (.alt 15 (.alt 17 (.take 18 (.alt 19 (.take 20 (.take 21 .done)) .stop)) .stop) (.alt 17 (.alt 15 (.take 18 (.alt 19 (.take 20 (.take 21 .done)) .stop)) .stop) .stop)))))))))) .stop) (.alt 7 (.take 8 (.alt 5 (.take 9 (.take 10 (.take 11 (.take 12 (.take 13 (.take 14 (.take 16 (.alt 15 (.alt 17 (.take 18 (.alt 19 (.take 20 (.take 21 .done)) .stop)) .stop) (.alt 17 (.alt 15 (.take 18 (.alt 19 (.take 20 (.take 21 .done)) .stop)) .stop) .stop))))))))) .stop)) .stop)))))) .stop))
def plGL09h_5 : Plan := (.take 0 (.take 1 (.take 2 (.take 3 (.take 4 (.take 5 (.take 6 (.take 7 (.take 8 (.take 9 (.take 10 (.take 11 (.alt 12 (.take 13 (.altE 14 (.take 15 (.altE 16 .done .stop)) .stop)) .stop)))))))))))))
def plGL09h_6 : Plan := (.take 0 (.take 1 (.take 2 (.take 3 (.take 4 (.take 5 (.take 6 (.take 7 (.take 8 (.take 10 (.take 11 (.alt 9 (.alt 12 (.take 13 (.altE 14 (.take 15 (.altE 16 .done .stop)) .stop)) .stop) .stop))))))))))))
def encB (b : Bool) : List AV := [.bool b]
theorem later_ok (nodes : List Nd) (rs : List Bool) (c i : Int) (hl : nodes.length ≤ 1000000) (hr : rs.length = nodes.length) (hi : 0 ≤ i) : Good Try.prog TT false 36 [.int .i64 c, .int .i64 i, .ref [ndsV nodes], .ref [.lst 1 (rs.map encB)]] (· = .bool (decide (i < c ∧ c < nodes.length ∧ rs.getD c.toNat false = false))) := by
  have L : (nodes.map encN).length = nodes.length := List.length_map ..
  have LB : (rs.map encB).length = rs.length := List.length_map ..
  refine good_of mixed tabOk Try.func36 rfl rfl Try.ntmps36 Try.results36 rfl rfl ?_
  (conv => whnf); (repeat' (first | (refine arith_i ⟨by omega, by omega⟩ ?_; conv => whnf) | (refine arith_u ⟨by omega, by omega⟩ ?_; conv => whnf) | (refine arith_8 ⟨by omega, by omega⟩ ?_; conv => whnf) | (refine need_i (by first | omega | (simp only [List.length_cons, List.length_nil]; omega) | (simp only [List.length_append, List.length_cons, List.length_nil, List.length_map, List.length_replicate, List.length_modify]; omega)) ?_; conv => whnf) | ((with_reducible first | refine branch_tt ?_ | refine branch_ff ?_); conv => whnf) | (with_reducible refine branch_not ?_) | ((refine idx_m (by omega) (by omega) fun y hy => ?_); conv => whnf) | ((with_reducible first | refine slc_e ?_ | refine callS_a ?_ | refine bld_a ?_ | refine own_e ?_ | refine mkmap_b ?_); conv => whnf) | ((with_reducible first | refine branch_d (fun hq => ?_) (fun hq => ?_) | refine branch_e (fun hq => ?_) (fun hq => ?_) | refine branch_n (fun hq => ?_) (fun hq => ?_) | refine branch_i (fun hq => ?_) (fun hq => ?_)) <;> (try (exfalso; omega)) <;> (conv => whnf))))
  all_goals first
    | exact ret_p rfl (bool_eq (by simp [*]; try omega))
    | exact ret_p rfl (bool_eq (by rw [Bool.eq_iff_iff]; simp [List.getD_eq_getElem?_getD, hy]; omega))
/-- A branch as it should be. -/
def brC (c N i : Nat) (n : Nd) (out : List (List Int)) (kn : List Bool) : Prop := (i : Int) < n.zero ∧ n.zero < N ∧ (i : Int) < n.one ∧ n.one < N ∧ n.zero ≠ n.one ∧ 0 ≤ n.var ∧ n.var < c ∧ kn.getD n.zero.toNat false = false ∧ kn.getD n.one.toNat false = false ∧ nth (out.getD i []) n.var.toNat = -1
instance (c N i : Nat) (n : Nd) (out : List (List Int)) (kn : List Bool) : Decidable (brC c N i n out kn) := by unfold brC; infer_instance
/-- One node of a tree: the states and what is known behind it. -/
def stepS (c rows N : Nat) (i : Nat) (n : Nd) (out : List (List Int)) (kn : List Bool) : Option (List (List Int) × List Bool) :=
  if kn.getD i false = false then none
  else if n.kind ≠ 1 then if (infB rows n || bndB rows n) = true then some (out, kn) else none
  else if brC c N i n out kn then
    some ((out.set n.zero.toNat ((out.getD i []).set n.var.toNat 0)).set n.one.toNat ((out.getD i []).set n.var.toNat 1), (kn.set n.zero.toNat true).set n.one.toNat true)
  else none
def goS (c rows N : Nat) : Nat → List (List Int) → List Bool → List Nd → Option (List (List Int))
  | _, out, _, [] => some out
  | i, out, kn, n :: ns => match stepS c rows N i n out kn with
    | none => none
    | some (o, k) => goS c rows N (i + 1) o k ns
def statesF (P : Prog) (nodes : List Nd) : Option (List (List Int)) × Int :=
  if validB P = false then (none, 1) else if 8191 < nodes.length then (none, 3) else if nodes.length = 0 then (none, 29)
  else match goS P.costs.length P.rows.length nodes.length 0 ((List.replicate nodes.length []).set 0 (List.replicate P.costs.length (-1))) ((List.replicate nodes.length false).set 0 true) nodes with
    | none => (none, 29)
    | some o => (some o, 0)
def encS (st : List Int) : List AV := [ints st]
def statesV (P : Prog) (nodes : List Nd) : AV := .tup [.lst 1 (((statesF P nodes).1.getD []).map encS), .int .i64 (statesF P nodes).2]
theorem st_none {P : Prog} {nodes : List Nd} {e : Int} (h : statesF P nodes = (none, e)) : aret (.tup [.nil, .int .i64 e]) (· = statesV P nodes) :=
  ret_t (rs := [.lst 1 [], .int .i64 e]) ⟨.inl rc_n, (rc_p rfl).g, trivial⟩ (by rw [statesV, h]; rfl)
theorem encS_set {st : List Int} (out : List (List Int)) (i : Nat) : (out.map encS).modify i (fun c => c.set 0 (ints st)) = (out.set i st).map encS := by
  rw [map_modify (enc := encS) (g := fun _ => st) (fun x => rfl)]
  congr 1
  induction out generalizing i with
  | nil => simp
  | cons x l ih => cases i <;> simp [List.modify_zero_cons, List.modify_succ_cons, ih]
theorem encB_set {b : Bool} (kn : List Bool) (i : Nat) : (kn.map encB).modify i (fun c => c.set 0 (.bool b)) = (kn.set i b).map encB := by
  rw [map_modify (enc := encB) (g := fun _ => b) (fun x => rfl)]
  congr 1
  induction kn generalizing i with
  | nil => simp
  | cons x l ih => cases i <;> simp [List.modify_zero_cons, List.modify_succ_cons, ih]
theorem repl_S (n : Nat) : List.replicate n [AV.lst 1 []] = (List.replicate n []).map encS := by simp [encS, ints]
theorem repl_B (n : Nat) : List.replicate n [AV.bool false] = (List.replicate n false).map encB := by simp [encB]
theorem go_none {c rows N i : Nat} {n : Nd} {out : List (List Int)} {kn : List Bool} {ns : List Nd} (h : stepS c rows N i n out kn = none) : goS c rows N i out kn (n :: ns) = none := by simp only [goS, h]
theorem go_some {c rows N i : Nat} {n : Nd} {out o : List (List Int)} {kn k : List Bool} {ns : List Nd} (h : stepS c rows N i n out kn = some (o, k)) : goS c rows N i out kn (n :: ns) = goS c rows N (i + 1) o k ns := by simp only [goS, h]
theorem step_un {c rows N i : Nat} {n : Nd} {out : List (List Int)} {kn : List Bool} (h : kn[i]? = some false) : stepS c rows N i n out kn = none := by
  rw [stepS, if_pos (by simp [List.getD_eq_getElem?_getD, h])]
theorem step_leaf {c rows N i : Nat} {n : Nd} {out : List (List Int)} {kn : List Bool} (h : kn[i]? = some true) (hk : n.kind ≠ 1) : stepS c rows N i n out kn = if (infB rows n || bndB rows n) = true then some (out, kn) else none := by
  rw [stepS, if_neg (by simp [List.getD_eq_getElem?_getD, h]), if_pos hk]
theorem step_br {c rows N i : Nat} {n : Nd} {out : List (List Int)} {kn : List Bool} (h : kn[i]? = some true) (hk : n.kind = 1) : stepS c rows N i n out kn = if brC c N i n out kn then
    some ((out.set n.zero.toNat ((out.getD i []).set n.var.toNat 0)).set n.one.toNat ((out.getD i []).set n.var.toNat 1), (kn.set n.zero.toNat true).set n.one.toNat true) else none := by
  rw [stepS, if_neg (by simp [List.getD_eq_getElem?_getD, h]), if_neg (by simp [hk])]
theorem getD_some {α : Type} {xs : List α} {i : Nat} {x d : α} (h : xs[i]? = some x) : xs.getD i d = x := by simp [List.getD_eq_getElem?_getD, h]
theorem known_set {c N : Nat} {out : List (List Int)} {kn : List Bool} {z : Nat} {st : List Int} (ho : out.length = N) (hk : kn.length = N) (hz : z < N) (hst : st.length = c) (h : ∀ j : Nat, kn.getD j false = true → (out.getD j []).length = c) : ∀ j : Nat, (kn.set z true).getD j false = true → ((out.set z st).getD j []).length = c := fun j hj => by
  by_cases e : z = j
  · subst e
    rw [List.getD_eq_getElem?_getD, List.getElem?_set_self (by omega)]
    exact hst
  · rw [List.getD_eq_getElem?_getD, List.getElem?_set_ne e, ← List.getD_eq_getElem?_getD]
    rw [List.getD_eq_getElem?_getD, List.getElem?_set_ne e, ← List.getD_eq_getElem?_getD] at hj
    exact h j hj
theorem idx_mod_ne {es : List (List AV)} {i : Nat} {f : List AV → List AV} {n : Int} {K : List AV → Prop} (h : n.toNat ≠ i) (hi : idx es n K) : idx (es.modify i f) n K := by
  rw [idx_iff] at hi ⊢
  obtain ⟨h0, cs, h1, h2⟩ := hi
  exact ⟨h0, cs, by rw [List.getElem?_modify, h1]; simp; intro e; exact absurd e.symm h, h2⟩
set_option maxHeartbeats 2000000 in
theorem states_ok (P : Prog) (nodes : List Nd) (hP : Fits P) (hl : nodes.length ≤ 1000000) : Good Try.prog TT false 28 [progV P, ndsV nodes] (· = statesV P nodes) := by
  have L : (P.costs.map encI).length = P.costs.length := List.length_map ..
  have LR : (P.rows.map encRow).length = P.rows.length := List.length_map ..
  have LN : (nodes.map encN).length = nodes.length := List.length_map ..
  have eN : (((nodes.map encN).length : Int)).toNat = nodes.length := by simp
  refine good_of mixed tabOk Try.func28 rfl rfl Try.ntmps28 Try.results28 rfl rfl ?_
  (conv => whnf); (repeat' (first | (refine arith_i ⟨by omega, by omega⟩ ?_; conv => whnf) | (refine arith_u ⟨by omega, by omega⟩ ?_; conv => whnf) | (refine arith_8 ⟨by omega, by omega⟩ ?_; conv => whnf) | (refine need_i (by first | omega | (simp only [List.length_cons, List.length_nil]; omega) | (simp only [List.length_append, List.length_cons, List.length_nil, List.length_map, List.length_replicate, List.length_modify]; omega)) ?_; conv => whnf) | ((with_reducible first | refine branch_tt ?_ | refine branch_ff ?_); conv => whnf) | (with_reducible refine branch_not ?_) | ((refine call_e (valid_ok P hP.1 hP.2.1 hP.2.2) ?_); conv => whnf) | ((rw [L]; refine call_e (repeat_ok P.costs.length (validB_parts (by assumption)).1) ?_); conv => whnf) | ((refine nils_i [.lst 1 []] ⟨pc_nil 1, trivial⟩ ?_); conv => whnf) | ((refine idx_r (by omega) (by omega) ?_); conv => whnf) | ((with_reducible first | refine slc_e ?_ | refine callS_a ?_ | refine bld_a ?_ | refine own_e ?_ | refine mkmap_b ?_); conv => whnf) | (refine draw_i 11 plGL09h_0 (by decide +kernel) ?_; (conv => whnf); fail_if_success (guard_target =~ False)) | (refine draw_i 0 plGL09h_1 (by decide +kernel) ?_; (conv => whnf); fail_if_success (guard_target =~ False)) | (refine draw_i 22 plGL09h_2 (by decide +kernel) ?_; (conv => whnf); fail_if_success (guard_target =~ False)) | (refine draw_i 22 plGL09h_3 (by decide +kernel) ?_; (conv => whnf); fail_if_success (guard_target =~ False)) | (refine draw_i 22 plGL09h_4 (by decide +kernel) ?_; (conv => whnf); fail_if_success (guard_target =~ False)) | (refine draw_i 17 plGL09h_5 (by decide +kernel) ?_; (conv => whnf); fail_if_success (guard_target =~ False)) | (refine draw_i 17 plGL09h_6 (by decide +kernel) ?_; (conv => whnf); fail_if_success (guard_target =~ False)) | (refine draw_i 17 plGL09h_5 (by decide +kernel) ?_; (conv => whnf); fail_if_success (guard_target =~ False)) | (refine draw_i 17 plGL09h_6 (by decide +kernel) ?_; (conv => whnf); fail_if_success (guard_target =~ False)) | ((with_reducible refine And.intro ?_ ?_) <;> (conv => whnf)) | (with_reducible exact trivial) | ((with_reducible first | refine branch_d (fun hq => ?_) (fun hq => ?_) | refine branch_e (fun hq => ?_) (fun hq => ?_) | refine branch_n (fun hq => ?_) (fun hq => ?_) | refine branch_i (fun hq => ?_) (fun hq => ?_)) <;> (try (exfalso; omega)) <;> (conv => whnf))))
  · exact st_none (by rw [statesF, if_neg (by simp [*]), if_pos (by omega)])
  · exact st_none (by rw [statesF, if_neg (by simp [*]), if_neg (by omega), if_pos (by omega)])
  · rename_i hv _
    have hc := (validB_parts hv).1
    refine loop_i3 (fun (i : Nat) (out : List (List Int)) (kn : List Bool) => i ≤ nodes.length ∧ out.length = nodes.length ∧ kn.length = nodes.length ∧ (∀ j : Nat, kn.getD j false = true → (out.getD j []).length = P.costs.length) ∧
        statesF P nodes = (match goS P.costs.length P.rows.length nodes.length i out kn (nodes.drop i) with | none => (none, 29) | some o => (some o, 0)))
      (fun i out kn => mkSt [(2, .ptr 2 0), (6, .own 22 23 1 (out.map encS)), (7, .ptr 7 0), (8, .fn 36 [.ptr 3 0, .ptr 7 0]), (36, ndsV nodes), (37, .int .i64 (nodes.map encN).length), (38, .int .i64 i)] [(2, [ints P.costs, rowsV P.rows]), (3, [ndsV nodes]), (7, [.own 25 4 1 (kn.map encB)])] false)
      (fun i _ _ => nodes.length - i) 0 ((List.replicate nodes.length []).set 0 (List.replicate P.costs.length (-1))) ((List.replicate nodes.length false).set 0 true) ⟨Nat.zero_le _, by simp, by simp, ?_, ?_⟩
      (le_mk ⟨rfl, by rw [← encS_set, ← repl_S, ← eN]; rfl, rfl, rfl, rfl, rfl, rfl, trivial⟩ ⟨rfl, rfl, by rw [← encB_set, ← repl_B, ← eN]; rfl, trivial⟩ rfl) ?_
    · refine known_set (N := nodes.length) (by simp) (by simp) (by omega) (by simp) fun j hj => ?_
      rw [List.getD_eq_getElem?_getD, List.getElem?_replicate] at hj
      split at hj <;> simp at hj
    · rw [statesF, if_neg (by simp [hv]), if_neg (by omega), if_neg (by omega)]; rfl
    rintro i out kn ⟨hi, ho, hk, hlen, hF⟩
    have LO : (out.map encS).length = out.length := List.length_map ..
    have LK : (kn.map encB).length = kn.length := List.length_map ..
    (conv => whnf); (repeat' (first | (refine arith_i ⟨by omega, by omega⟩ ?_; conv => whnf) | (refine arith_u ⟨by omega, by omega⟩ ?_; conv => whnf) | (refine arith_8 ⟨by omega, by omega⟩ ?_; conv => whnf) | (refine need_i (by first | omega | (simp only [List.length_cons, List.length_nil]; omega) | (simp only [List.length_append, List.length_cons, List.length_nil, List.length_map, List.length_replicate, List.length_modify]; omega)) ?_; conv => whnf) | ((with_reducible first | refine branch_tt ?_ | refine branch_ff ?_); conv => whnf) | (with_reducible refine branch_not ?_) | ((first | refine idx_cs (by assumption) ?_ | refine idx_ms (by omega) (by assumption) ?_ | (refine idx_c (xs := nodes) (by omega) fun y hy => ?_; rw [drop_at hy] at hF) | (refine idx_c (xs := kn) (by omega) fun z hz => ?_) | (refine idx_c (xs := out) (by omega) fun st hst => ?_; have hsl := hlen i (by rw [getD_some hz]; assumption); rw [getD_some hst] at hsl; have LS : (st.map encI).length = st.length := List.length_map ..) | (refine idx_m (enc := encI) (by omega) (by omega) fun v hvv => ?_) | (refine idx_m (by omega) (by omega) fun u hu => ?_) | refine idx_mod_ne (by omega) ?_); conv => whnf) | ((refine call_e (oInf_ok P _) ?_); conv => whnf) | ((refine call_e (oBound_ok P _) ?_); conv => whnf) | ((refine call_e (later_ok nodes kn _ i hl hk (by omega)) ?_); conv => whnf) | ((refine call_e (with_ok _ _ _ (by omega) (by omega)) ?_); conv => whnf) | ((with_reducible first | refine slc_e ?_ | refine callS_a ?_ | refine bld_a ?_ | refine own_e ?_ | refine mkmap_b ?_); conv => whnf) | (refine draw_i 11 plGL09h_0 (by decide +kernel) ?_; (conv => whnf); fail_if_success (guard_target =~ False)) | (refine draw_i 0 plGL09h_1 (by decide +kernel) ?_; (conv => whnf); fail_if_success (guard_target =~ False)) | (refine draw_i 22 plGL09h_3 (by decide +kernel) ?_; (conv => whnf); fail_if_success (guard_target =~ False)) | (refine draw_i 22 plGL09h_4 (by decide +kernel) ?_; (conv => whnf); fail_if_success (guard_target =~ False)) | (refine draw_i 22 plGL09h_2 (by decide +kernel) ?_; (conv => whnf); fail_if_success (guard_target =~ False)) | (refine draw_i 17 plGL09h_6 (by decide +kernel) ?_; (conv => whnf); fail_if_success (guard_target =~ False)) | (refine draw_i 17 plGL09h_5 (by decide +kernel) ?_; (conv => whnf); fail_if_success (guard_target =~ False)) | (refine draw_i 17 plGL09h_6 (by decide +kernel) ?_; (conv => whnf); fail_if_success (guard_target =~ False)) | (refine draw_i 17 plGL09h_5 (by decide +kernel) ?_; (conv => whnf); fail_if_success (guard_target =~ False)) | ((with_reducible refine And.intro ?_ ?_) <;> (conv => whnf)) | (with_reducible exact trivial) | ((with_reducible first | refine branch_d (fun hq => ?_) (fun hq => ?_) | refine branch_e (fun hq => ?_) (fun hq => ?_) | refine branch_n (fun hq => ?_) (fun hq => ?_) | refine branch_i (fun hq => ?_) (fun hq => ?_)) <;> (try (exfalso; omega)) <;> (conv => whnf))))
    all_goals first
      | (have e1 : kn[i]? = some false := by rw [hz]; simp only [*]
         exact st_none (hF.trans (by rw [go_none (step_un e1)])))
      | (have e1 : kn[i]? = some true := by rw [hz]; simp only [*]
         have e2 : y.kind ≠ 1 := by assumption
         have e3 : stepS P.costs.length P.rows.length nodes.length i y out kn = none := by rw [step_leaf e1 e2]; simp [*]
         exact st_none (hF.trans (by rw [go_none e3])))
      | (have e1 : kn[i]? = some true := by rw [hz]; simp only [*]
         have e2 : y.kind = 1 := by assumption
         have e4 : ¬ brC P.costs.length nodes.length i y out kn := by
           rintro ⟨b1, b2, b3, b4, b5, b6, b7, b8, b9, b10⟩
           first | omega | exact hq ⟨b1, b2, b8⟩ | exact hq ⟨b3, b4, b9⟩ | (rw [getD_some hst, nth_eq hvv] at b10; exact hq b10)
         have e3 : stepS P.costs.length P.rows.length nodes.length i y out kn = none := by rw [step_br e1 e2, if_neg e4]
         exact st_none (hF.trans (by rw [go_none e3])))
      | (have e1 : kn[i]? = some true := by rw [hz]; simp only [*]
         have e2 : y.kind ≠ 1 := by assumption
         have e3 : stepS P.costs.length P.rows.length nodes.length i y out kn = some (out, kn) := by rw [step_leaf e1 e2]; simp [*]
         exact ⟨i + 1, out, kn, ⟨by omega, ho, hk, hlen, hF.trans (by rw [go_some e3])⟩, (le_mk (by repeat' (first | exact trivial | rfl | apply And.intro)) (by repeat' (first | exact trivial | rfl | apply And.intro)) rfl), by omega⟩)
      | (have e1 : kn[i]? = some true := by rw [hz]; simp only [*]
         have e2 : y.kind = 1 := by assumption
         have e4 : brC P.costs.length nodes.length i y out kn := ⟨by omega, by omega, by omega, by omega, by omega, by omega, by omega, by simp only [*], by simp only [*], by rw [getD_some hst, nth_eq hvv]; exact hq⟩
         have e3 := step_br (c := P.costs.length) (rows := P.rows.length) (N := nodes.length) e1 e2 (out := out)
         rw [if_pos e4, getD_some hst] at e3
         refine ⟨i + 1, _, _, ⟨by omega, ?_, ?_, ?_, hF.trans (by rw [go_some e3])⟩, le_mk ⟨rfl, by rw [← encS_set, ← encS_set]; rfl, rfl, rfl, rfl, rfl, rfl, trivial⟩ ⟨rfl, rfl, by rw [← encB_set, ← encB_set]; rfl, trivial⟩ rfl, by omega⟩
         · simp; exact ho
         · simp; exact hk
         · exact known_set (N := nodes.length) (by simp; exact ho) (by simp; exact hk) (by omega) (by simp; exact hsl) (known_set ho hk (by omega) (by simp; exact hsl) hlen))
      | (have e0 : nodes.drop i = [] := drop_end (by omega)
         rw [e0] at hF
         exact ret_t (rs := [.lst 1 (out.map encS), .int .i64 0]) ⟨.inl rc_o, (rc_p rfl).g, trivial⟩ (by rw [statesV, hF]; rfl))
  · exact st_none (by simp [statesF, *])
end Go.Proofs.Ytjbmdaoppiinbaa
end

/- Layer 9: Proved. -/
section
namespace Go.Proofs.Ytjbmdaoppiinbaa
set_option linter.unusedVariables false
set_option linter.unusedSimpArgs false
set_option linter.unnecessarySimpa false
set_option linter.unusedSectionVars false
set_option maxRecDepth 10000
open Go.RowKit
def plGL09i_0 : Plan := (.take 0 (.take 1 (.take 2 (.take 3 (.take 4 (.alt 5 (.take 6 (.take 7 (.take 8 (.take 9 (.take 10 (.take 11 (.take 12 .done))))))) .stop))))))
def plGL09i_1 : Plan := (.take 0 (.take 1 (.take 2 (.take 3 (.alt 4 (.alt 5 (.take 6 (.take 7 (.take 8 (.take 9 (.take 10 (.take 11 (.take 12 .done))))))) .stop) .stop)))))
def plGL09i_2 : Plan := (.take 1 (.take 2 (.take 3 (.alt 0 (.alt 4 (.alt 5 (.take 6 (.take 7 (.take 8 (.take 9 (.take 10 (.take 11 (.take 12 .done))))))) .stop) .stop) (.alt 4 (.alt 0 (.alt 5 (.take 6 (.take 7 (.take 8 (.take 9 (.take 10 (.take 11 (.take 12 .done))))))) .stop) .stop) .stop)))))
def plGL09i_3 : Plan := (.take 0 (.take 1 (.take 2 (.take 3 (.take 4 (.take 5 (.alt 6 (.take 7 .done) .stop)))))))
def plGL09i_4 : Plan := (.take 0 (.take 1 (.take 2 (.take 3 (.take 5 (.alt 4 (.alt 6 (.take 7 .done) .stop) .stop))))))
def plGL09i_5 : Plan := (.take 1 (.take 2 (.take 3 (.alt 0 (.alt 4 (.alt 5 (.alt 6 (.take 7 .done) .stop) .stop) (.alt 5 (.alt 4 (.alt 6 (.take 7 .done) .stop) .stop) .stop)) (.alt 4 (.alt 0 (.alt 5 (.alt 6 (.take 7 .done) .stop) .stop) (.alt 5 (.alt 0 (.alt 6 (.take 7 .done) .stop) .stop) .stop)) (.alt 5 (.alt 0 (.alt 4 (.alt 6 (.take 7 .done) .stop) .stop) (.alt 4 (.alt 0 (.alt 6 (.take 7 .done) .stop) .stop) .stop)) .stop))))))
theorem known_tri {c N : Nat} {out : List (List Int)} {kn : List Bool} {z : Nat} {st : List Int} (ho : out.length = N) (hk : kn.length = N) (hz : z < N) (hst : stOB st c = true) (h : ∀ (j : Nat) s, kn[j]? = some true → out[j]? = some s → stOB s c = true) : ∀ (j : Nat) s, (kn.set z true)[j]? = some true → (out.set z st)[j]? = some s → stOB s c = true := fun j s hj hs => by
  by_cases e : z = j
  · subst e
    rw [List.getElem?_set_self (by omega)] at hs
    injection hs with hs
    exact hs ▸ hst
  · rw [List.getElem?_set_ne e] at hj hs
    exact h j s hj hs
theorem stO_set {c : Nat} {st : List Int} {v : Nat} {x : Int} (h : stOB st c = true) (hx : -1 ≤ x ∧ x ≤ 1) : stOB (st.set v x) c = true := by
  simp only [stOB, Bool.and_eq_true, decide_eq_true_eq, List.length_set, List.all_eq_true] at h ⊢
  refine ⟨h.1, fun y hy => ?_⟩
  rcases List.mem_or_eq_of_mem_set hy with h' | rfl
  · exact h.2 y h'
  · simp [tri9]; omega
def NodeOk (rows : Nat) (n : Nd) : Prop := n.kind ≠ 1 → (infB rows n || bndB rows n) = true
theorem goS_good {c rows : Nat} {nodes : List Nd} {o : List (List Int)} : ∀ (m i : Nat) (out : List (List Int)) (kn : List Bool), m = nodes.length - i → i ≤ nodes.length → out.length = nodes.length → kn.length = nodes.length → (∀ (j : Nat) s, kn[j]? = some true → out[j]? = some s → stOB s c = true) → (∀ (j : Nat) n, j < i → nodes[j]? = some n → kn[j]? = some true ∧ NodeOk rows n) →
    goS c rows nodes.length i out kn (nodes.drop i) = some o → o.length = nodes.length ∧ ∀ (j : Nat) s n, o[j]? = some s → nodes[j]? = some n → stOB s c = true ∧ NodeOk rows n := by
  intro m
  induction m with
  | zero =>
    intro i out kn hm hi ho hk hst hno hgo
    rw [drop_end (by omega)] at hgo
    simp only [goS, Option.some.injEq] at hgo
    subst hgo
    exact ⟨ho, fun j s n h1 h2 => by
      have hj := (List.getElem?_eq_some_iff.1 h2).1
      have := hno j n (by omega) h2
      exact ⟨hst j s this.1 h1, this.2⟩⟩
  | succ m ih =>
    intro i out kn hm hi ho hk hst hno hgo
    have hlt : i < nodes.length := by omega
    obtain ⟨y, hy⟩ : ∃ y, nodes[i]? = some y := ⟨_, List.getElem?_eq_getElem hlt⟩
    obtain ⟨b, hb⟩ : ∃ b, kn[i]? = some b := ⟨_, List.getElem?_eq_getElem (by omega)⟩
    rw [drop_at hy] at hgo
    cases b with
    | false => rw [go_none (step_un hb)] at hgo; cases hgo
    | true =>
      by_cases hkind : y.kind = 1
      · have e := step_br (c := c) (rows := rows) (N := nodes.length) hb hkind (out := out)
        by_cases hbr : brC c nodes.length i y out kn
        · rw [if_pos hbr] at e
          rw [go_some e] at hgo
          obtain ⟨b1, b2, b3, b4, b5, b6, b7, b8, b9, b10⟩ := hbr
          obtain ⟨st, hs⟩ : ∃ st, out[i]? = some st := ⟨_, List.getElem?_eq_getElem (by omega)⟩
          have ht := hst i st hb hs
          rw [getD_some hs] at hgo
          refine ih (i + 1) _ _ (by omega) (by omega) (by simp; exact ho) (by simp; exact hk) (known_tri (N := nodes.length) (by simp; exact ho) (by simp; exact hk) (by omega) (stO_set ht (by omega)) (known_tri ho hk (by omega) (stO_set ht (by omega)) hst)) (fun j n hj hn => ?_) hgo
          by_cases hji : j = i
          · subst hji
            rw [hy] at hn
            injection hn with hn
            subst hn
            refine ⟨?_, fun h => absurd hkind h⟩
            rw [List.getElem?_set_ne (by omega), List.getElem?_set_ne (by omega)]
            exact hb
          · have := hno j n (by omega) hn
            refine ⟨?_, this.2⟩
            by_cases e1 : y.one.toNat = j
            · subst e1; rw [List.getElem?_set_self (by simp; omega)]
            · rw [List.getElem?_set_ne e1]
              by_cases e2 : y.zero.toNat = j
              · subst e2; rw [List.getElem?_set_self (by omega)]
              · rw [List.getElem?_set_ne e2]; exact this.1
        · rw [if_neg hbr] at e
          rw [go_none e] at hgo
          cases hgo
      · have e := step_leaf (c := c) (rows := rows) (N := nodes.length) hb hkind (out := out)
        by_cases hl : (infB rows y || bndB rows y) = true
        · rw [if_pos hl] at e
          rw [go_some e] at hgo
          refine ih (i + 1) _ _ (by omega) (by omega) ho hk hst (fun j n hj hn => ?_) hgo
          by_cases hji : j = i
          · subst hji
            rw [hy] at hn
            injection hn with hn
            subst hn
            exact ⟨hb, fun _ => hl⟩
          · exact hno j n (by omega) hn
        · rw [if_neg hl] at e
          rw [go_none e] at hgo
          cases hgo
theorem states_good {P : Prog} {nodes : List Nd} {o : List (List Int)} {e : Int} (h : statesF P nodes = (some o, e)) : e = 0 ∧ validB P = true ∧ 0 < nodes.length ∧ nodes.length ≤ 8191 ∧ o.length = nodes.length ∧ ∀ (j : Nat) s n, o[j]? = some s → nodes[j]? = some n → stOB s P.costs.length = true ∧ NodeOk P.rows.length n := by
  unfold statesF at h
  split at h
  · cases h
  · next hv =>
    split at h
    · cases h
    · next h1 =>
      split at h
      · cases h
      · next h2 =>
        split at h
        · cases h
        · next o' ho =>
          simp only [Prod.mk.injEq, Option.some.injEq] at h
          obtain ⟨rfl, rfl⟩ := h
          refine ⟨rfl, by simpa using hv, by omega, by omega, ?_⟩
          refine goS_good (nodes.length - 0) 0 ((List.replicate nodes.length []).set 0 (List.replicate P.costs.length (-1))) ((List.replicate nodes.length false).set 0 true) rfl (Nat.zero_le _) (by simp) (by simp) ?_ (fun j n hj => by omega) (by simpa using ho)
          refine known_tri (N := nodes.length) (by simp) (by simp) (by omega) ?_ (fun j s hj => ?_)
          · simp [stOB, tri9]
          · rw [List.getElem?_replicate] at hj
            split at hj <;> simp at hj
/-- What a tree proves: the least bound of its leaves. -/
def goP (P : Prog) : List (List Int) → List Nd → Int → Bool → Int × Bool × Int
  | s :: ss, n :: ns, best, sm => if n.kind = 2 then (if blockedB s (rowAt P.rows n.row.toNat) = false then (0, false, 29) else goP P ss ns best sm)
    else if n.kind = 3 then goP P ss ns (if sm = false ∨ boundF P s n < best then boundF P s n else best) true
    else goP P ss ns best sm
  | _, _, best, sm => (best, sm, 0)
def provedF (P : Prog) (nodes : List Nd) : Int × Bool × Int := match statesF P nodes with
  | (none, e) => (0, false, e)
  | (some o, _) => goP P o nodes 0 false
def provedV (P : Prog) (nodes : List Nd) : AV := .tup [.int .i64 (provedF P nodes).1, .bool (provedF P nodes).2.1, .int .i64 (provedF P nodes).2.2]
theorem proved_ret {P : Prog} {nodes : List Nd} {b e : Int} {s : Bool} (h : provedF P nodes = (b, s, e)) : aret (.tup [.int .i64 b, .bool s, .int .i64 e]) (· = provedV P nodes) :=
  ret_t (rs := [.int .i64 b, .bool s, .int .i64 e]) ⟨(rc_p rfl).g, (rc_p rfl).g, (rc_p rfl).g, trivial⟩ (by rw [provedV, h])
theorem states_err {P : Prog} {nodes : List Nd} : (∃ o, statesF P nodes = (some o, 0)) ∨ (∃ e, e ≠ 0 ∧ statesF P nodes = (none, e)) := by
  unfold statesF
  split
  · exact .inr ⟨1, by omega, rfl⟩
  · split
    · exact .inr ⟨3, by omega, rfl⟩
    · split
      · exact .inr ⟨29, by omega, rfl⟩
      · split
        · exact .inr ⟨29, by omega, rfl⟩
        · exact .inl ⟨_, rfl⟩
theorem blocked_span {P : Prog} {st : List Int} {r : Row} (hv : validB P = true) (hr : r ∈ P.rows) (hs : stOB st P.costs.length = true) : spanB r.coefs st = true ∧ blockedB st r = !(decide ((spanF r.coefs st).1 ≤ r.most ∧ r.least ≤ (spanF r.coefs st).2 ∧ r.least ≤ r.most)) := by
  have h1 := valid_rows hv hr
  have hb : spanB r.coefs st = true := by
    have := (validB_parts hv).1
    rw [spanB, Bool.and_eq_true, ← stO_state (by omega), h1.1]
    refine ⟨hs, ?_⟩
    rw [validCoefsB, List.all_eq_true]
    intro x hx
    obtain ⟨i, hi, e⟩ := mem_nth hx
    rw [coefB_iff, ← e]
    exact h1.2.1 i hi
  refine ⟨hb, ?_⟩
  rw [Bool.eq_iff_iff]
  simp [blockedB, hb]
  omega
theorem node_cases {rows : Nat} {n : Nd} (h : NodeOk rows n) : (n.kind = 2 → 0 ≤ n.row ∧ n.row < rows) ∧ (n.kind = 3 → bndB rows n = true) := by
  refine ⟨fun hk => ?_, fun hk => ?_⟩
  · have := h (by omega)
    simp [infB, bnd_row, hk] at this
    exact this
  · have := h (by omega)
    simp [infB, hk] at this
    exact this
theorem st_len {st : List Int} {c : Nat} (h : stOB st c = true) : st.length = c := by simp [stOB] at h; omega
set_option maxHeartbeats 2000000 in
theorem proved_ok (P : Prog) (nodes : List Nd) (hP : Fits P) (hl : nodes.length ≤ 1000000) : Good Try.prog TT false 14 [progV P, ndsV nodes] (· = provedV P nodes) := by
  have L : (P.costs.map encI).length = P.costs.length := List.length_map ..
  have LR : (P.rows.map encRow).length = P.rows.length := List.length_map ..
  have LN : (nodes.map encN).length = nodes.length := List.length_map ..
  rcases states_err (P := P) (nodes := nodes) with ⟨o, ho⟩ | ⟨e, he, ho⟩
  · have hS : Good Try.prog TT false 28 [progV P, ndsV nodes] (· = .tup [.lst 1 (o.map encS), .int .i64 0]) := (states_ok P nodes hP hl).mono fun r h => h.trans (by rw [statesV, ho]; rfl)
    obtain ⟨-, hv, h0, h8, hol, hgood⟩ := states_good ho
    have hpf : provedF P nodes = goP P o nodes 0 false := by rw [provedF, ho]
    have hc12 := (validB_parts hv).1
    have LO : (o.map encS).length = o.length := List.length_map ..
    refine good_of mixed tabOk Try.func14 rfl rfl Try.ntmps14 Try.results14 rfl rfl ?_
    (conv => whnf); (repeat' (first | (refine arith_i ⟨by omega, by omega⟩ ?_; conv => whnf) | (refine arith_u ⟨by omega, by omega⟩ ?_; conv => whnf) | (refine arith_8 ⟨by omega, by omega⟩ ?_; conv => whnf) | (refine need_i (by first | omega | (simp only [List.length_cons, List.length_nil]; omega) | (simp only [List.length_append, List.length_cons, List.length_nil, List.length_map, List.length_replicate, List.length_modify]; omega)) ?_; conv => whnf) | ((with_reducible first | refine branch_tt ?_ | refine branch_ff ?_); conv => whnf) | (with_reducible refine branch_not ?_) | ((refine call_e hS ?_); conv => whnf) | ((with_reducible first | refine slc_e ?_ | refine callS_a ?_ | refine bld_a ?_ | refine own_e ?_ | refine mkmap_b ?_); conv => whnf) | (refine draw_i 13 plGL09i_0 (by decide +kernel) ?_; (conv => whnf); fail_if_success (guard_target =~ False)) | (refine draw_i 13 plGL09i_1 (by decide +kernel) ?_; (conv => whnf); fail_if_success (guard_target =~ False)) | (refine draw_i 13 plGL09i_2 (by decide +kernel) ?_; (conv => whnf); fail_if_success (guard_target =~ False)) | (refine draw_i 8 plGL09i_3 (by decide +kernel) ?_; (conv => whnf); fail_if_success (guard_target =~ False)) | (refine draw_i 8 plGL09i_4 (by decide +kernel) ?_; (conv => whnf); fail_if_success (guard_target =~ False)) | (refine draw_i 8 plGL09i_5 (by decide +kernel) ?_; (conv => whnf); fail_if_success (guard_target =~ False)) | ((with_reducible refine And.intro ?_ ?_) <;> (conv => whnf)) | (with_reducible exact trivial) | ((with_reducible first | refine branch_d (fun hq => ?_) (fun hq => ?_) | refine branch_e (fun hq => ?_) (fun hq => ?_) | refine branch_n (fun hq => ?_) (fun hq => ?_) | refine branch_i (fun hq => ?_) (fun hq => ?_)) <;> (try (exfalso; omega)) <;> (conv => whnf))))
    refine loop_i3 (fun (i : Nat) (best : Int) (sm : Bool) => i ≤ nodes.length ∧ provedF P nodes = goP P (o.drop i) (nodes.drop i) best sm)
      (fun i best sm => mkSt [(2, .ptr 2 0), (4, .int .i64 best), (5, .bool sm), (7, .lst 1 (o.map encS)), (24, ndsV nodes), (25, .int .i64 (nodes.map encN).length), (26, .int .i64 i)] [(2, [ints P.costs, rowsV P.rows])] false)
      (fun i _ _ => nodes.length - i) 0 0 false ⟨Nat.zero_le _, by simpa using hpf⟩ (le_mk (by repeat' (first | exact trivial | rfl | apply And.intro)) (by repeat' (first | exact trivial | rfl | apply And.intro)) rfl) ?_
    rintro i best sm ⟨hi, hF⟩
    (conv => whnf); (repeat' (first | (refine arith_i ⟨by omega, by omega⟩ ?_; conv => whnf) | (refine arith_u ⟨by omega, by omega⟩ ?_; conv => whnf) | (refine arith_8 ⟨by omega, by omega⟩ ?_; conv => whnf) | (refine need_i (by first | omega | (simp only [List.length_cons, List.length_nil]; omega) | (simp only [List.length_append, List.length_cons, List.length_nil, List.length_map, List.length_replicate, List.length_modify]; omega)) ?_; conv => whnf) | ((with_reducible first | refine branch_tt ?_ | refine branch_ff ?_); conv => whnf) | (with_reducible refine branch_not ?_) | ((first | refine idx_cs (by assumption) ?_ | refine idx_ms (by omega) (by assumption) ?_ | (refine idx_c (xs := nodes) (by omega) fun y hy => ?_; obtain ⟨st, hst⟩ : ∃ st, o[i]? = some st := ⟨_, List.getElem?_eq_getElem (by omega)⟩; rw [drop_at hy, drop_at hst, goP] at hF; have hg := hgood i st y hst hy; have hsl := st_len hg.1; have hnc := node_cases hg.2) | (refine idx_m (xs := P.rows) (by omega) (by omega) fun u hu => ?_; have hur := rowAt_eq hu; have hbs := blocked_span hv (List.mem_of_getElem? hu) hg.1; have hspl := (valid_rows hv (List.mem_of_getElem? hu)).1)); conv => whnf) | ((refine call_e (boundOf_ok P _ _ hv hsl (hnc.2 (by assumption))) ?_); conv => whnf) | ((refine call_e (span_ok u.coefs st u.least u.most (by omega) (by omega)) ?_); conv => whnf) | ((with_reducible first | refine slc_e ?_ | refine callS_a ?_ | refine bld_a ?_ | refine own_e ?_ | refine mkmap_b ?_); conv => whnf) | (refine draw_i 13 plGL09i_0 (by decide +kernel) ?_; (conv => whnf); fail_if_success (guard_target =~ False)) | (refine draw_i 13 plGL09i_1 (by decide +kernel) ?_; (conv => whnf); fail_if_success (guard_target =~ False)) | (refine draw_i 13 plGL09i_2 (by decide +kernel) ?_; (conv => whnf); fail_if_success (guard_target =~ False)) | (refine draw_i 8 plGL09i_3 (by decide +kernel) ?_; (conv => whnf); fail_if_success (guard_target =~ False)) | (refine draw_i 8 plGL09i_4 (by decide +kernel) ?_; (conv => whnf); fail_if_success (guard_target =~ False)) | (refine draw_i 8 plGL09i_5 (by decide +kernel) ?_; (conv => whnf); fail_if_success (guard_target =~ False)) | ((with_reducible refine And.intro ?_ ?_) <;> (conv => whnf)) | (with_reducible exact trivial) | ((with_reducible first | refine branch_d (fun hq => ?_) (fun hq => ?_) | refine branch_e (fun hq => ?_) (fun hq => ?_) | refine branch_n (fun hq => ?_) (fun hq => ?_) | refine branch_i (fun hq => ?_) (fun hq => ?_)) <;> (try (exfalso; omega)) <;> (conv => whnf))))
    all_goals first
      | (have e : blockedB st u = false := by rw [hbs.2]; simp; omega
         rw [if_pos (by assumption), hur, if_pos e] at hF
         exact proved_ret hF)
      | (have e : ¬ blockedB st u = false := by rw [hbs.2]; simp; omega
         rw [if_pos (by assumption), hur, if_neg e] at hF
         exact ⟨i + 1, best, sm, ⟨by omega, hF⟩, (le_mk (by repeat' (first | exact trivial | rfl | apply And.intro)) (by repeat' (first | exact trivial | rfl | apply And.intro)) rfl), by omega⟩)
      | (rw [if_neg (by omega), if_pos (by assumption), if_pos (by first | (left; assumption) | (right; assumption))] at hF
         exact ⟨i + 1, boundF P st y, true, ⟨by omega, hF⟩, (le_mk (by repeat' (first | exact trivial | rfl | apply And.intro)) (by repeat' (first | exact trivial | rfl | apply And.intro)) rfl), by omega⟩)
      | (have e : sm = true := by assumption
         have e5 : ¬ (sm = false ∨ boundF P st y < best) := fun h => h.elim (fun h => by rw [e] at h; cases h) (fun h => by omega)
         rw [if_neg (by omega), if_pos (by assumption), if_neg e5] at hF
         rw [← e] at hF
         exact ⟨i + 1, best, sm, ⟨by omega, hF⟩, (le_mk (by repeat' (first | exact trivial | rfl | apply And.intro)) (by repeat' (first | exact trivial | rfl | apply And.intro)) rfl), by omega⟩)
      | (rw [if_neg (by omega), if_neg (by omega)] at hF
         exact ⟨i + 1, best, sm, ⟨by omega, hF⟩, (le_mk (by repeat' (first | exact trivial | rfl | apply And.intro)) (by repeat' (first | exact trivial | rfl | apply And.intro)) rfl), by omega⟩)
      | (rw [drop_end (by omega), drop_end (by omega)] at hF
         exact proved_ret hF)
  · have hS : Good Try.prog TT false 28 [progV P, ndsV nodes] (· = .tup [.lst 1 [], .int .i64 e]) := (states_ok P nodes hP hl).mono fun r h => h.trans (by rw [statesV, ho]; rfl)
    have hpf : provedF P nodes = (0, false, e) := by rw [provedF, ho]
    refine good_of mixed tabOk Try.func14 rfl rfl Try.ntmps14 Try.results14 rfl rfl ?_
    (conv => whnf); (repeat' (first | (refine arith_i ⟨by omega, by omega⟩ ?_; conv => whnf) | (refine arith_u ⟨by omega, by omega⟩ ?_; conv => whnf) | (refine arith_8 ⟨by omega, by omega⟩ ?_; conv => whnf) | (refine need_i (by first | omega | (simp only [List.length_cons, List.length_nil]; omega) | (simp only [List.length_append, List.length_cons, List.length_nil, List.length_map, List.length_replicate, List.length_modify]; omega)) ?_; conv => whnf) | ((with_reducible first | refine branch_tt ?_ | refine branch_ff ?_); conv => whnf) | (with_reducible refine branch_not ?_) | ((refine call_e hS ?_); conv => whnf) | ((with_reducible first | refine slc_e ?_ | refine callS_a ?_ | refine bld_a ?_ | refine own_e ?_ | refine mkmap_b ?_); conv => whnf) | (refine draw_i 13 plGL09i_0 (by decide +kernel) ?_; (conv => whnf); fail_if_success (guard_target =~ False)) | (refine draw_i 13 plGL09i_1 (by decide +kernel) ?_; (conv => whnf); fail_if_success (guard_target =~ False)) | (refine draw_i 13 plGL09i_2 (by decide +kernel) ?_; (conv => whnf); fail_if_success (guard_target =~ False)) | (refine draw_i 8 plGL09i_3 (by decide +kernel) ?_; (conv => whnf); fail_if_success (guard_target =~ False)) | (refine draw_i 8 plGL09i_4 (by decide +kernel) ?_; (conv => whnf); fail_if_success (guard_target =~ False)) | (refine draw_i 8 plGL09i_5 (by decide +kernel) ?_; (conv => whnf); fail_if_success (guard_target =~ False)) | ((with_reducible refine And.intro ?_ ?_) <;> (conv => whnf)) | (with_reducible exact trivial) | ((with_reducible first | refine branch_d (fun hq => ?_) (fun hq => ?_) | refine branch_e (fun hq => ?_) (fun hq => ?_) | refine branch_n (fun hq => ?_) (fun hq => ?_) | refine branch_i (fun hq => ?_) (fun hq => ?_)) <;> (try (exfalso; omega)) <;> (conv => whnf))))
    exact proved_ret hpf
end Go.Proofs.Ytjbmdaoppiinbaa
end

/- Layer 9: Check. -/
section
namespace Go.Proofs.Ytjbmdaoppiinbaa
set_option linter.unusedVariables false
set_option linter.unusedSimpArgs false
set_option linter.unnecessarySimpa false
set_option linter.unusedSectionVars false
set_option maxRecDepth 10000
open Go.RowKit


structure Pln where
  found : Bool
  chosen : List Int
  cost : Int
  nodes : List Nd
def planV (p : Pln) : AV := .agg [.bool p.found, ints p.chosen, .int .i64 p.cost, ndsV p.nodes]
/-- The error of a plan. -/
def checkF (P : Prog) (p : Pln) : Int :=
  if validB P = false then 1
  else if p.found = true ∧ (meetsB P p.chosen = false ∨ costF P p.chosen ≠ p.cost) then 10
  else if p.found = false ∧ (p.chosen.length ≠ 0 ∨ p.cost ≠ 0) then 10
  else if (provedF P p.nodes).2.2 ≠ 0 then (provedF P p.nodes).2.2
  else if (p.found = true ∧ ((provedF P p.nodes).2.1 = false ∨ (provedF P p.nodes).1 < p.cost)) ∨ (p.found = false ∧ (provedF P p.nodes).2.1 = true) then 30
  else 0
set_option maxHeartbeats 2000000 in
theorem check_ok (P : Prog) (p : Pln) (hP : Fits P) (hl : p.nodes.length ≤ 1000000) (hc : p.chosen.length ≤ 1000000) : Good Try.prog TT false 5 [progV P, planV p] (· = .int .i64 (checkF P p)) := by
  have L : (P.costs.map encI).length = P.costs.length := List.length_map ..
  have LR : (P.rows.map encRow).length = P.rows.length := List.length_map ..
  have LN : (p.nodes.map encN).length = p.nodes.length := List.length_map ..
  have LC : (p.chosen.map encI).length = p.chosen.length := List.length_map ..
  refine good_of mixed tabOk Try.func5 rfl rfl Try.ntmps5 Try.results5 rfl rfl ?_
  (conv => whnf); (repeat' (first | (refine arith_i ⟨by omega, by omega⟩ ?_; conv => whnf) | (refine arith_u ⟨by omega, by omega⟩ ?_; conv => whnf) | (refine arith_8 ⟨by omega, by omega⟩ ?_; conv => whnf) | (refine need_i (by first | omega | (simp only [List.length_cons, List.length_nil]; omega) | (simp only [List.length_append, List.length_cons, List.length_nil, List.length_map, List.length_replicate, List.length_modify]; omega)) ?_; conv => whnf) | ((with_reducible first | refine branch_tt ?_ | refine branch_ff ?_); conv => whnf) | (with_reducible refine branch_not ?_) | ((refine call_e (valid_ok P hP.1 hP.2.1 hP.2.2) ?_); conv => whnf) | ((refine call_e (cost_ok P p.chosen hP hc) ?_); conv => whnf) | ((refine call_e (meets_ok P p.chosen hP hc) ?_); conv => whnf) | ((refine call_e (proved_ok P p.nodes hP hl) ?_); conv => whnf) | ((with_reducible first | refine slc_e ?_ | refine callS_a ?_ | refine bld_a ?_ | refine own_e ?_ | refine mkmap_b ?_); conv => whnf) | ((with_reducible first | refine branch_d (fun hq => ?_) (fun hq => ?_) | refine branch_e (fun hq => ?_) (fun hq => ?_) | refine branch_n (fun hq => ?_) (fun hq => ?_) | refine branch_i (fun hq => ?_) (fun hq => ?_)) <;> (try (exfalso; omega)) <;> (conv => whnf))))
  all_goals first
    | (exfalso; simp_all; done)
    | (refine ret_p rfl (int_eq ?_); simp [checkF, *]; done)
    | (have e1 : p.chosen.length ≠ 0 := by omega
       refine ret_p rfl (int_eq ?_); simp only [checkF]; simp_all; done)
    | (have e1 : p.chosen.length = 0 := by omega
       have e2 : p.chosen = [] := List.eq_nil_of_length_eq_zero e1
       refine ret_p rfl (int_eq ?_); simp only [checkF]; simp_all; done)
    | (refine ret_p rfl (int_eq ?_); simp only [checkF]; simp_all; done)
end Go.Proofs.Ytjbmdaoppiinbaa
end

/- Layer 10: what is done with each choice: All keeps it, Solve keeps the cheapest. -/
section
namespace Go.Proofs.Ytjbmdaoppiinbaa
set_option linter.unusedVariables false
set_option linter.unusedSimpArgs false
set_option linter.unnecessarySimpa false
set_option linter.unusedSectionVars false
set_option maxRecDepth 10000
open Go.RowKit
theorem scal_ints (xs : List Int) : scalE (xs.map encI) := fun c hc v hv => by
  obtain ⟨x, _, rfl⟩ := List.mem_map.1 hc
  rw [List.mem_singleton.1 hv]; rfl
/-- The plan so far. -/
def plC (σ : Bool × Int × List Int) : List AV := [.bool σ.1, ints σ.2.2, .int .i64 σ.2.1, .nil]
set_option maxHeartbeats 2000000 in
theorem visSolve_ok (P : Prog) (ch : List Int) (σ : Bool × Int × List Int) (hc : ch.length ≤ 1000) : GoodM Try.prog TT false 9 [.own 1105 3 1 (ch.map encI), .int .i64 (sumOf P.costs ch), .ptr 1010 0] [(1010, plC σ)]
    (fun r ov bx => r = .tup [] ∧ ov = [(1000, .own 1105 3 1 (ch.map encI))] ∧ bx = [(1010, plC (bestS P σ ch))]) := by
  refine good_of_m (fun _ => false) mixed tabOk Try.func9 rfl rfl Try.ntmps9 Try.results9 rfl rfl ?_
  (conv => whnf); (repeat' (first | (refine arith_i ⟨by omega, by omega⟩ ?_; conv => whnf) | (refine arith_u ⟨by omega, by omega⟩ ?_; conv => whnf) | (refine arith_8 ⟨by omega, by omega⟩ ?_; conv => whnf) | (refine need_i (by first | omega | (simp only [List.length_cons, List.length_nil]; omega) | (simp only [List.length_append, List.length_cons, List.length_nil, List.length_map, List.length_replicate, List.length_modify]; omega)) ?_; conv => whnf) | ((with_reducible first | refine branch_tt ?_ | refine branch_ff ?_); conv => whnf) | (with_reducible refine branch_not ?_) | ((refine call_e (clone_ok ch (by omega)) ?_); conv => whnf) | ((refine own_k (scal_ints ch) ?_); conv => whnf) | ((with_reducible first | refine slc_e ?_ | refine callS_a ?_ | refine bld_a ?_ | refine own_e ?_ | refine mkmap_b ?_); conv => whnf) | ((with_reducible first | refine branch_d (fun hq => ?_) (fun hq => ?_) | refine branch_e (fun hq => ?_) (fun hq => ?_) | refine branch_n (fun hq => ?_) (fun hq => ?_) | refine branch_i (fun hq => ?_) (fun hq => ?_)) <;> (try (exfalso; omega)) <;> (conv => whnf))))
  all_goals first
    | (have e : bestS P σ ch = (true, sumOf P.costs ch, ch) := by rw [bestS, if_pos (by first | (left; assumption) | (right; assumption))]
       rw [e]
       exact retM_i (.tup []) [(1000, .own 1105 3 1 (ch.map encI))] [(1010, [.bool true, ints ch, .int .i64 (sumOf P.costs ch), .nil])] rfl (Le.trans (le_erase 16) (le_mk ⟨rfl, rfl, trivial⟩ ⟨rfl, trivial⟩ rfl)) rfl ⟨rfl, rfl, rfl⟩)
    | (have e : bestS P σ ch = σ := by
         rw [bestS, if_neg]
         rintro (h | h)
         · simp_all
         · omega
       rw [e]
       exact retM_i (.tup []) [(1000, .own 1105 3 1 (ch.map encI))] [(1010, plC σ)] rfl (le_mk ⟨rfl, rfl, trivial⟩ ⟨rfl, trivial⟩ rfl) rfl ⟨rfl, rfl, rfl⟩)
end Go.Proofs.Ytjbmdaoppiinbaa
end

/- Layer 10: each goes through all choices that meet a program, in ascending order. (Printed by wip/mk10c.py.) -/
section
namespace Go.Proofs.Ytjbmdaoppiinbaa
set_option linter.unusedVariables false
set_option linter.unusedSimpArgs false
set_option linter.unnecessarySimpa false
set_option linter.unusedSectionVars false
set_option maxRecDepth 10000
open Go.RowKit
def plGL10c_0 : Plan := (.take 0 (.take 1 (.take 2 (.take 3 (.take 4 (.take 5 (.take 6 (.take 7 (.take 8 (.take 9 (.alt 10 .done .stop)))))))))))
def plGL10c_1 : Plan := (.take 0 (.take 1 (.take 2 (.take 3 (.take 4 (.take 5 (.take 6 (.take 7 (.alt 8 (.take 9 (.alt 10 .done .stop)) .stop)))))))))
def plGL10c_2 : Plan := (.take 1 (.take 2 (.take 3 (.take 4 (.take 6 (.alt 0 (.alt 5 (.take 7 (.alt 8 (.take 9 (.alt 10 .done .stop)) .stop)) .stop) (.alt 5 (.take 7 (.alt 0 (.alt 8 (.take 9 (.alt 10 .done .stop)) .stop) (.alt 8 (.take 9 (.alt 0 (.alt 10 .done .stop) .stop)) .stop))) .stop)))))))
def plGL10c_3 : Plan := (.take 1 (.take 2 (.take 3 (.take 4 (.take 6 (.alt 0 (.alt 5 (.take 7 (.alt 8 (.take 9 (.altM 10 .done .stop)) .stop)) .stop) (.alt 5 (.take 7 (.alt 0 (.alt 8 (.take 9 (.altM 10 .done .stop)) .stop) (.alt 8 (.take 9 (.alt 0 (.altM 10 .done .stop) .stop)) .stop))) .stop)))))))
def sumsF (P : Prog) (ch : List Int) : List Int := P.rows.map fun r => sumOf r.coefs ch
def srchA : List AV := [.ptr 1003 0, .ptr 1005 0, .ptr 1004 0, .ptr 1000 0, .ptr 1002 0, .ptr 1006 0]
theorem sumsF_len {P : Prog} {ch : List Int} : (sumsF P ch).length = P.rows.length := by simp [sumsF]
theorem sumsF_nth {P : Prog} {ch : List Int} {j : Nat} (h : j < P.rows.length) : nth (sumsF P ch) j = sumOf (rowAt P.rows j).coefs ch := by
  simp [sumsF, nth, rowAt, List.getD_eq_getElem?_getD, h]
theorem sums_met {P : Prog} {ch : List Int} : sumsOkB P.rows (sumsF P ch) = metB P ch := by
  cases h : metB P ch with
  | true =>
    refine sumsOk_good fun k hk => ?_
    have := List.all_eq_true.1 h _ (rowAt_mem hk)
    simp only [meetB, Bool.and_eq_true, decide_eq_true_eq] at this
    rw [sumsF_nth hk]
    exact this
  | false =>
    cases hs : sumsOkB P.rows (sumsF P ch) with
    | false => rfl
    | true =>
      have : metB P ch = true := by
        refine AllR.full (k := P.rows.length) (fun j hj => ?_) (Nat.le_refl _)
        have := List.all_eq_true.1 hs j (List.mem_range.2 hj)
        rw [sumsF_nth hj] at this
        simpa [meetB] using this
      rw [h] at this
      cases this
theorem here_met {P : Prog} {ch : List Int} (h : sumsOkB P.rows (sumsF P ch) = true) : here P ch = [ch] := by rw [here, if_pos]; rw [← sums_met]; exact h
theorem here_not {P : Prog} {ch : List Int} (h : sumsOkB P.rows (sumsF P ch) = false) : here P ch = [] := by rw [here, if_neg]; rw [← sums_met, h]; decide
theorem vis_snoc {P : Prog} {ch : List Int} {k : Nat} (hk : k < P.costs.length) : loopF P (P.costs.length - k) ch k = visF P (ch ++ [(k : Int)]) (k + 1) ++ loopF P (P.costs.length - (k + 1)) ch (k + 1) := by
  rw [show P.costs.length - k = (P.costs.length - (k + 1)) + 1 by omega, loopF, visF]
theorem asc_len {lo hi : Nat} {ch : List Int} (h : Asc lo hi ch) : ch.length ≤ hi - lo := by
  obtain ⟨h1, h2⟩ := h
  induction ch generalizing lo with
  | nil => simp
  | cons x ch ih =>
    have hp := List.pairwise_cons.1 h1
    have hx := h2 x (by simp)
    have := ih (lo := x.toNat + 1) hp.2 fun y hy => by have := hp.1 y hy; have := h2 y (by simp [hy]); omega
    simp only [List.length_cons]
    omega
theorem sum_in {P : Prog} (hv : validB P = true) {ch : List Int} (h : Asc 0 P.costs.length ch) {r : Row} (hr : r ∈ P.rows) : -1000000 ≤ sumOf r.coefs ch ∧ sumOf r.coefs ch ≤ 1000000 := by
  have h1 := valid_rows hv hr
  have h2 := asc_len h
  have h3 := (validB_parts hv).1
  have := sumTo_bd (vs := r.coefs) (ch := ch) (n := r.coefs.length) h1.2.1 ch.length fun i hi => by
    have := h.2 _ (nth_mem hi); omega
  unfold sumOf
  omega
theorem costs_sum {P : Prog} (hv : validB P = true) {ch : List Int} (h : Asc 0 P.costs.length ch) : -1000000 ≤ sumOf P.costs ch ∧ sumOf P.costs ch ≤ 1000000 := by
  have h2 := asc_len h
  have h3 := (validB_parts hv).1
  have := sumTo_bd (vs := P.costs) (ch := ch) (n := P.costs.length) (fun i hi => costs_in hv i hi) ch.length fun i hi => by
    have := h.2 _ (nth_mem hi); omega
  unfold sumOf
  omega
theorem sumsF_in {P : Prog} (hv : validB P = true) {ch : List Int} (h : Asc 0 P.costs.length ch) : ∀ j, j < (sumsF P ch).length → -1000000 ≤ nth (sumsF P ch) j ∧ nth (sumsF P ch) j ≤ 1000000 := fun j hj => by
  rw [sumsF_len] at hj
  rw [sumsF_nth hj]
  exact sum_in hv h (rowAt_mem hj)
theorem addF_on {P : Prog} {ch : List Int} {k : Nat} : addF P.rows (sumsF P ch) k 1 = sumsF P (ch ++ [(k : Int)]) := by
  refine nth_ext (by rw [addF_len, sumsF_len, sumsF_len]) fun j hj => ?_
  rw [addF_len, sumsF_len] at hj
  rw [addF_nth (by rw [sumsF_len]; exact hj), sumsF_nth hj, sumsF_nth hj, sumOf_snoc]
  omega
theorem addF_off {P : Prog} {ch : List Int} {k : Nat} : addF P.rows (sumsF P (ch ++ [(k : Int)])) k (-1) = sumsF P ch := by
  refine nth_ext (by rw [addF_len, sumsF_len, sumsF_len]) fun j hj => ?_
  rw [addF_len, sumsF_len] at hj
  rw [addF_nth (by rw [sumsF_len]; exact hj), sumsF_nth hj, sumsF_nth hj, sumOf_snoc]
  omega
theorem addOn_ok (P : Prog) (ch : List Int) (k : Nat) (hv : validB P = true) (ha : Asc 0 P.costs.length ch) (hk : k < P.costs.length) : GoodM Try.prog TT false 19 [.int .i64 k, .int .i64 1, .ptr 1000 0, .ptr 1001 0] [(1000, [ints P.costs, rowsV P.rows]), (1001, [.own 1101 3 1 ((sumsF P ch).map encI)])]
    (fun r ov bx => r = .tup [] ∧ ov = [] ∧ bx = [(1000, [ints P.costs, rowsV P.rows]), (1001, [.own 1101 3 1 ((sumsF P (ch ++ [(k : Int)])).map encI)])]) := by
  have := add_ok P (sumsF P ch) k 1 hv (by omega) (.inl rfl) (sumsF_in hv ha) sumsF_len
  rwa [addF_on] at this
theorem addOff_ok (P : Prog) (ch : List Int) (k : Nat) (hv : validB P = true) (ha : Asc 0 P.costs.length (ch ++ [(k : Int)])) (hk : k < P.costs.length) : GoodM Try.prog TT false 19 [.int .i64 k, .int .i64 (-1), .ptr 1000 0, .ptr 1001 0] [(1000, [ints P.costs, rowsV P.rows]), (1001, [.own 1101 3 1 ((sumsF P (ch ++ [(k : Int)])).map encI)])]
    (fun r ov bx => r = .tup [] ∧ ov = [] ∧ bx = [(1000, [ints P.costs, rowsV P.rows]), (1001, [.own 1101 3 1 ((sumsF P ch).map encI)])]) := by
  have := add_ok P (sumsF P (ch ++ [(k : Int)])) k (-1) hv (by omega) (.inr rfl) (sumsF_in hv ha) sumsF_len
  rwa [addF_off] at this
theorem snocI' {xs : List Int} {x : Int} : xs.map encI ++ [[AV.int .i64 x]] = (xs ++ [x]).map encI := by simp [encI]
theorem less_I {xs : List Int} {x y : Int} (h : y = ((xs ++ [x]).map encI).length - 1) : ((((xs ++ [x]).map encI).take y.toNat).drop (Int.toNat 0)) = xs.map encI := by
  have : y.toNat = (xs.map encI).length := by rw [h]; simp
  rw [this, List.map_append, List.take_left]
  rfl
theorem repl_sums (P : Prog) : List.replicate ((P.rows.map encRow).length : Int).toNat [AV.int .i64 0] = (sumsF P []).map encI := by
  have e : sumsF P [] = List.replicate P.rows.length 0 := by
    rw [sumsF]
    refine List.ext_getElem? fun i => ?_
    rw [List.getElem?_map, List.getElem?_replicate]
    split
    · next h => rw [List.getElem?_eq_getElem h]; rfl
    · next h => rw [List.getElem?_eq_none (by omega)]; rfl
  rw [e, List.map_replicate, List.length_map, Int.toNat_natCast]
  rfl
def vcS (σ : Bool × Int × List Int) : List AV := plC σ
def vstepS (P : Prog) (σ : Bool × Int × List Int) (ch : List Int) : Bool × Int × List Int := bestS P σ ch
def cndS (σ : Bool × Int × List Int) (L : List (List Int)) : Prop := True
def sBxS (P : Prog) (ch : List Int) (σ : Bool × Int × List Int) : List (Nat × List AV) := [(1000, [ints P.costs, rowsV P.rows]), (1001, [.own 1101 3 1 ((sumsF P ch).map encI)]), (1002, [.fn 19 [.ptr 1000 0, .ptr 1001 0]]), (1003, [.fn 20 [.ptr 1000 0, .ptr 1001 0]]), (1004, [.own 1104 3 1 (ch.map encI)]), (1005, [.fn 9 [.ptr 1010 0]]), (1006, [.fn 21 srchA]), (1010, vcS σ)]
theorem cndS_app {P : Prog} {a b : List (List Int)} {σ : Bool × Int × List Int} (h : cndS σ (a ++ b)) : cndS σ a ∧ cndS (a.foldl (vstepS P) σ) b := by
  unfold cndS at *
  first
    | exact ⟨trivial, trivial⟩
    | (have e : ∀ (a : List (List Int)) (σ : List (List Int)), a.foldl (vstepS P) σ = σ ++ a := fun a => by
         induction a with
         | nil => intro σ; simp
         | cons x a ih => intro σ; rw [List.foldl_cons, ih]; simp [vstepS]
       rw [e]
       simp at h ⊢
       omega)
set_option maxHeartbeats 4000000 in
theorem searchS_ok (P : Prog) (hv : validB P = true) : ∀ (m : Nat) (ch : List Int) (i : Nat) (cost : Int) (σ : Bool × Int × List Int), m = P.costs.length - i → i ≤ P.costs.length → Asc 0 i ch → cost = sumOf P.costs ch → cndS σ (visF P ch i) →
    GoodM Try.prog TT false 21 (.int .i64 i :: .int .i64 cost :: srchA) (sBxS P ch σ) (fun r ov bx => r = .tup [] ∧ ov = [] ∧ bx = sBxS P ch ((visF P ch i).foldl (vstepS P) σ)) := by
  have hr := (validB_parts hv).2.1
  have hcl := (validB_parts hv).1
  have LP : (P.costs.map encI).length = P.costs.length := List.length_map ..
  intro m
  induction m using Nat.strongRecOn with
  | ind m IH =>
    intro ch i cost τ hm hi ha hc hcnd0
    have hlen := asc_len ha
    have hcnd1 := cndS_app (P := P) hcnd0
    have hvis : visF P ch i = here P ch ++ loopF P (P.costs.length - i) ch i := rfl
    subst hc
    have hcnd := hcnd1.1
    refine good_of_m (fun _ => false) mixed tabOk Try.func21 rfl rfl Try.ntmps21 Try.results21 rfl rfl ?_
    (conv => whnf); (repeat' (first | (refine arith_i ⟨by omega, by omega⟩ ?_; conv => whnf) | (refine arith_u ⟨by omega, by omega⟩ ?_; conv => whnf) | (refine arith_8 ⟨by omega, by omega⟩ ?_; conv => whnf) | (refine need_i (by first | omega | (simp only [List.length_cons, List.length_nil]; omega) | (simp only [List.length_append, List.length_cons, List.length_nil, List.length_map, List.length_replicate, List.length_modify]; omega)) ?_; conv => whnf) | ((with_reducible first | refine branch_tt ?_ | refine branch_ff ?_); conv => whnf) | (with_reducible refine branch_not ?_) | ((refine call_e (met_ok P (sumsF P ch) sumsF_len hr) ?_); conv => whnf) | (((rw [here_met hq] at hcnd; unfold cndS at hcnd; (try simp only [List.length_singleton] at hcnd); refine mcall_e [(1010, 1010)] [(1105, 1104)] (visSolve_ok P ch τ (by omega)) rfl rfl rfl ⟨⟨_, rfl, rfl, rfl⟩, trivial⟩ rfl ?_)); conv => whnf) | ((with_reducible first | refine slc_e ?_ | refine callS_a ?_ | refine bld_a ?_ | refine own_e ?_ | refine mkmap_b ?_); conv => whnf) | (refine draw_i 0 plGL10c_3 (by decide +kernel) ?_; (conv => whnf); fail_if_success (guard_target =~ False)) | (refine draw_i 11 plGL10c_0 (by decide +kernel) ?_; (conv => whnf); fail_if_success (guard_target =~ False)) | (refine draw_i 11 plGL10c_1 (by decide +kernel) ?_; (conv => whnf); fail_if_success (guard_target =~ False)) | (refine draw_i 11 plGL10c_2 (by decide +kernel) ?_; (conv => whnf); fail_if_success (guard_target =~ False)) | ((with_reducible refine And.intro ?_ ?_) <;> (conv => whnf)) | (with_reducible exact trivial) | ((with_reducible first | refine branch_d (fun hq => ?_) (fun hq => ?_) | refine branch_e (fun hq => ?_) (fun hq => ?_) | refine branch_n (fun hq => ?_) (fun hq => ?_) | refine branch_i (fun hq => ?_) (fun hq => ?_)) <;> (try (exfalso; omega)) <;> (conv => whnf))))
    all_goals
      refine loop_i2 (fun (k : Nat) (τ' : Bool × Int × List Int) => i ≤ k ∧ k ≤ P.costs.length ∧ cndS τ' (loopF P (P.costs.length - k) ch k) ∧ (loopF P (P.costs.length - k) ch k).foldl (vstepS P) τ' = (visF P ch i).foldl (vstepS P) τ)
        (fun k τ' => mkSt [(1, .int .i64 (sumOf P.costs ch)), (4, .ptr 1004 0), (5, .ptr 1000 0), (6, .ptr 1002 0), (7, .ptr 1006 0), (10, .int .i64 k)] (sBxS P ch τ') false) (fun k _ => P.costs.length - k) i ((here P ch).foldl (vstepS P) τ) ⟨Nat.le_refl _, hi, hcnd1.2, by rw [hvis, List.foldl_append]⟩ ?_ ?_
      · first
          | (rw [here_met hq]; exact (le_mk (by repeat' (first | exact trivial | rfl | apply And.intro)) (by repeat' (first | exact trivial | rfl | apply And.intro)) rfl))
          | (rw [here_not hq]; exact (le_mk (by repeat' (first | exact trivial | rfl | apply And.intro)) (by repeat' (first | exact trivial | rfl | apply And.intro)) rfl))
      rintro k τ' ⟨hik, hkn, hcn, hfold⟩
      have haN : Asc 0 P.costs.length ch := ha.mono hi
      have hsum := costs_sum hv haN
      have hspl := fun h : k < P.costs.length => vis_snoc (P := P) (ch := ch) h
      (conv => whnf); (repeat' (first | (refine arith_i ⟨by omega, by omega⟩ ?_; conv => whnf) | (refine arith_u ⟨by omega, by omega⟩ ?_; conv => whnf) | (refine arith_8 ⟨by omega, by omega⟩ ?_; conv => whnf) | (refine need_i (by first | omega | (simp only [List.length_cons, List.length_nil]; omega) | (simp only [List.length_append, List.length_cons, List.length_nil, List.length_map, List.length_replicate, List.length_modify]; omega)) ?_; conv => whnf) | ((with_reducible first | refine branch_tt ?_ | refine branch_ff ?_); conv => whnf) | (with_reducible refine branch_not ?_) | (((refine idx_c (xs := P.costs) (by omega) fun y hy => ?_; have hyc := nth_eq hy; have hyb := costs_in hv k (by omega); have hkl : k < P.costs.length := (by omega); have hsp := hspl hkl; rw [hsp] at hcn hfold; have hcn2 := cndS_app (P := P) hcn; rw [List.foldl_append] at hfold; have hak : Asc 0 (k + 1) (ch ++ [(k : Int)]) := (ha.mono hik).snoc hkl; have LK : ((ch ++ [(k : Int)]).map encI).length = ch.length + 1 := (by simp))); conv => whnf) | ((simp only [snocI']); conv => whnf) | ((refine mcall_e [(1000, 1000), (1001, 1001)] [(1101, 1101)] (addOn_ok P ch k hv haN (by omega)) rfl rfl rfl ⟨⟨_, rfl, rfl, rfl⟩, ⟨_, rfl, rfl, rfl⟩, trivial⟩ rfl ?_); conv => whnf) | ((refine mcall_e [(1000, 1000), (1001, 1001), (1002, 1002), (1003, 1003), (1004, 1004), (1005, 1005), (1006, 1006), (1010, 1010)] [(1101, 1101), (1104, 1104)] (IH (P.costs.length - (k + 1)) (by omega) (ch ++ [(k : Int)]) (k + 1) (sumOf P.costs ch + y) τ' rfl (by omega) hak (by rw [sumOf_snoc, Int.toNat_natCast, hyc]) hcn2.1) rfl rfl rfl ⟨⟨_, rfl, rfl, rfl⟩, ⟨_, rfl, rfl, rfl⟩, ⟨_, rfl, rfl, rfl⟩, ⟨_, rfl, rfl, rfl⟩, ⟨_, rfl, rfl, rfl⟩, ⟨_, rfl, rfl, rfl⟩, ⟨_, rfl, rfl, rfl⟩, ⟨_, rfl, rfl, rfl⟩, trivial⟩ rfl ?_); conv => whnf) | ((refine mcall_e [(1000, 1000), (1001, 1001)] [(1101, 1101)] (addOff_ok P ch k hv (hak.mono hkl) (by omega)) rfl rfl rfl ⟨⟨_, rfl, rfl, rfl⟩, ⟨_, rfl, rfl, rfl⟩, trivial⟩ rfl ?_); conv => whnf) | ((refine slc_o ?_); conv => whnf) | (((refine sub_i ⟨by omega, by omega, by omega⟩ ?_; rw [less_I rfl])); conv => whnf) | ((with_reducible first | refine slc_e ?_ | refine callS_a ?_ | refine bld_a ?_ | refine own_e ?_ | refine mkmap_b ?_); conv => whnf) | (refine draw_i 0 plGL10c_3 (by decide +kernel) ?_; (conv => whnf); fail_if_success (guard_target =~ False)) | (refine draw_i 11 plGL10c_0 (by decide +kernel) ?_; (conv => whnf); fail_if_success (guard_target =~ False)) | (refine draw_i 11 plGL10c_1 (by decide +kernel) ?_; (conv => whnf); fail_if_success (guard_target =~ False)) | (refine draw_i 11 plGL10c_2 (by decide +kernel) ?_; (conv => whnf); fail_if_success (guard_target =~ False)) | ((with_reducible refine And.intro ?_ ?_) <;> (conv => whnf)) | (with_reducible exact trivial) | ((with_reducible first | refine branch_d (fun hq => ?_) (fun hq => ?_) | refine branch_e (fun hq => ?_) (fun hq => ?_) | refine branch_n (fun hq => ?_) (fun hq => ?_) | refine branch_i (fun hq => ?_) (fun hq => ?_)) <;> (try (exfalso; omega)) <;> (conv => whnf))))
      all_goals first
        | (have hkk : k = P.costs.length := by omega
           rw [hkk, Nat.sub_self] at hfold
           have hfold' : τ' = (visF P ch i).foldl (vstepS P) τ := hfold
           rw [← hfold']
           exact retM_i (.tup []) [] (sBxS P ch τ') rfl (le_mk (by repeat' (first | exact trivial | rfl | apply And.intro)) (by repeat' (first | exact trivial | rfl | apply And.intro)) rfl) rfl ⟨rfl, rfl, rfl⟩)
        | exact ⟨k + 1, (visF P (ch ++ [(k : Int)]) (k + 1)).foldl (vstepS P) τ', ⟨by omega, by omega, hcn2.2, hfold⟩, (le_mk (by repeat' (first | exact trivial | rfl | apply And.intro)) (by repeat' (first | exact trivial | rfl | apply And.intro)) rfl), by omega⟩
set_option maxHeartbeats 4000000 in
theorem eachS_ok (P : Prog) (σ : Bool × Int × List Int) (hv : validB P = true) (hc : cndS σ (allF P)) : GoodM Try.prog TT false 8 [progV P, .fn 9 [.ptr 1010 0]] [(1010, vcS σ)] (fun r ov bx => r = .tup [] ∧ ov = [] ∧ bx = [(1010, vcS ((allF P).foldl (vstepS P) σ))]) := by
  have hr := (validB_parts hv).2.1
  have LR : (P.rows.map encRow).length = P.rows.length := List.length_map ..
  refine good_of_m (fun _ => false) mixed tabOk Try.func8 rfl rfl Try.ntmps8 Try.results8 rfl rfl ?_
  (conv => whnf)
  repeat (first | (refine arith_i ⟨by omega, by omega⟩ ?_; conv => whnf) | (refine need_i (by omega) ?_; conv => whnf))
  refine mcall_i [(1000, 2), (1001, 4), (1002, 5), (1003, 6), (1004, 7), (1005, 3), (1006, 8), (1010, 1010)] [(1101, 12), (1104, 1104)] _ (le_adoptBox 7 0 1104 3 1 rfl rfl) (searchS_ok P hv (P.costs.length - 0) [] 0 0 σ rfl (Nat.zero_le _) ⟨List.Pairwise.nil, by simp⟩ rfl hc) rfl rfl rfl ⟨⟨_, rfl, rfl, rfl⟩, ⟨_, rfl, by rw [← repl_sums P]; rfl, rfl⟩, ⟨_, rfl, rfl, rfl⟩, ⟨_, rfl, rfl, rfl⟩, ⟨_, rfl, rfl, rfl⟩, ⟨_, rfl, rfl, rfl⟩, ⟨_, rfl, rfl, rfl⟩, ⟨_, rfl, rfl, rfl⟩, trivial⟩ ?_
  rintro r ov bx' ⟨rfl, rfl, rfl⟩
  refine ⟨rfl, ?_⟩
  conv => whnf
  exact retM_i (.tup []) [] [(1010, vcS ((allF P).foldl (vstepS P) σ))] rfl (le_mk (by repeat' (first | exact trivial | rfl | apply And.intro)) (by repeat' (first | exact trivial | rfl | apply And.intro)) rfl) rfl ⟨rfl, rfl, rfl⟩
end Go.Proofs.Ytjbmdaoppiinbaa
end

/- Layer 8 by the interpreter: isChoice, sumOver, Meets, Span, Dead. -/
section
namespace Go.Proofs.Ytjbmdaoppiinbaa
set_option linter.unusedVariables false
set_option linter.unusedSimpArgs false
set_option linter.unnecessarySimpa false
set_option linter.unusedSectionVars false
set_option maxRecDepth 10000

theorem dead_ok (P : Prog) (st : List Int) (hP : Fits P) (hs : st.length ≤ 1000000) : Good Try.prog TT false 24 [progV P, ints st] (· = .int .i64 (deadF P st)) := by
  have L : (P.costs.map encI).length = P.costs.length := List.length_map ..
  have LR : (P.rows.map encRow).length = P.rows.length := List.length_map ..
  obtain ⟨hp1, hp2, hp3⟩ := hP
  refine good_of mixed tabOk Try.func24 rfl rfl Try.ntmps24 Try.results24 rfl rfl ?_
  (conv => whnf); (repeat (first | (refine arith_i ⟨by omega, by omega⟩ ?_; conv => whnf) | (refine need_i (by first | omega | (simp only [List.length_append, List.length_cons, List.length_nil]; omega)) ?_; conv => whnf) | ((with_reducible first | refine branch_tt ?_ | refine branch_ff ?_); conv => whnf) | (with_reducible refine branch_not ?_) | ((with_reducible first | refine slc_e ?_ | refine callS_a ?_ | refine bld_a ?_ | refine own_e ?_ | refine mkmap_b ?_); conv => whnf)))
  refine call_e (valid_ok P hp1 hp2 hp3) ?_
  (conv => whnf); (repeat (first | (refine arith_i ⟨by omega, by omega⟩ ?_; conv => whnf) | (refine need_i (by first | omega | (simp only [List.length_append, List.length_cons, List.length_nil]; omega)) ?_; conv => whnf) | ((with_reducible first | refine branch_tt ?_ | refine branch_ff ?_); conv => whnf) | (with_reducible refine branch_not ?_) | ((with_reducible first | refine slc_e ?_ | refine callS_a ?_ | refine bld_a ?_ | refine own_e ?_ | refine mkmap_b ?_); conv => whnf)))
  cases hv : validB P with
  | false =>
    (conv => whnf); (repeat (first | (refine arith_i ⟨by omega, by omega⟩ ?_; conv => whnf) | (refine need_i (by first | omega | (simp only [List.length_append, List.length_cons, List.length_nil]; omega)) ?_; conv => whnf) | ((with_reducible first | refine branch_tt ?_ | refine branch_ff ?_); conv => whnf) | (with_reducible refine branch_not ?_) | ((with_reducible first | refine slc_e ?_ | refine callS_a ?_ | refine bld_a ?_ | refine own_e ?_ | refine mkmap_b ?_); conv => whnf)))
    exact ret_p rfl (int_eq (by simp [deadF, deadB, hv]))
  | true =>
    (conv => whnf); (repeat (first | (refine arith_i ⟨by omega, by omega⟩ ?_; conv => whnf) | (refine need_i (by first | omega | (simp only [List.length_append, List.length_cons, List.length_nil]; omega)) ?_; conv => whnf) | ((with_reducible first | refine branch_tt ?_ | refine branch_ff ?_); conv => whnf) | (with_reducible refine branch_not ?_) | ((with_reducible first | refine slc_e ?_ | refine callS_a ?_ | refine bld_a ?_ | refine own_e ?_ | refine mkmap_b ?_); conv => whnf)))
    rw [L]
    refine call_e (isState_ok st P.costs.length hs hp1) ?_
    (conv => whnf); (repeat (first | (refine arith_i ⟨by omega, by omega⟩ ?_; conv => whnf) | (refine need_i (by first | omega | (simp only [List.length_append, List.length_cons, List.length_nil]; omega)) ?_; conv => whnf) | ((with_reducible first | refine branch_tt ?_ | refine branch_ff ?_); conv => whnf) | (with_reducible refine branch_not ?_) | ((with_reducible first | refine slc_e ?_ | refine callS_a ?_ | refine bld_a ?_ | refine own_e ?_ | refine mkmap_b ?_); conv => whnf)))
    cases hc : isStateB st P.costs.length with
    | false =>
      (conv => whnf); (repeat (first | (refine arith_i ⟨by omega, by omega⟩ ?_; conv => whnf) | (refine need_i (by first | omega | (simp only [List.length_append, List.length_cons, List.length_nil]; omega)) ?_; conv => whnf) | ((with_reducible first | refine branch_tt ?_ | refine branch_ff ?_); conv => whnf) | (with_reducible refine branch_not ?_) | ((with_reducible first | refine slc_e ?_ | refine callS_a ?_ | refine bld_a ?_ | refine own_e ?_ | refine mkmap_b ?_); conv => whnf)))
      exact ret_p rfl (int_eq (by simp [deadF, deadB, hc]))
    | true =>
      (conv => whnf); (repeat (first | (refine arith_i ⟨by omega, by omega⟩ ?_; conv => whnf) | (refine need_i (by first | omega | (simp only [List.length_append, List.length_cons, List.length_nil]; omega)) ?_; conv => whnf) | ((with_reducible first | refine branch_tt ?_ | refine branch_ff ?_); conv => whnf) | (with_reducible refine branch_not ?_) | ((with_reducible first | refine slc_e ?_ | refine callS_a ?_ | refine bld_a ?_ | refine own_e ?_ | refine mkmap_b ?_); conv => whnf)))
      have hd : deadF P st = firstFrom st 0 P.rows := by simp [deadF, deadB, hv, hc]
      refine loop_i (fun k : Nat => k ≤ P.rows.length ∧ ∀ i, i < k → blockedB st (rowAt P.rows i) = false) (fun k => mkSt [(1, ints st), (22, rowsV P.rows), (23, .int .i64 (P.rows.map encRow).length), (24, .int .i64 k)] [] false) (fun k => P.rows.length - k) 0 ⟨Nat.zero_le _, nofun⟩ (le_mk ⟨rfl, rfl, rfl, rfl, trivial⟩ trivial rfl) ?_
      rintro j ⟨hj, hall⟩
      (conv => whnf); (repeat (first | (refine arith_i ⟨by omega, by omega⟩ ?_; conv => whnf) | (refine need_i (by first | omega | (simp only [List.length_append, List.length_cons, List.length_nil]; omega)) ?_; conv => whnf) | ((with_reducible first | refine branch_tt ?_ | refine branch_ff ?_); conv => whnf) | (with_reducible refine branch_not ?_) | ((with_reducible first | refine slc_e ?_ | refine callS_a ?_ | refine bld_a ?_ | refine own_e ?_ | refine mkmap_b ?_); conv => whnf)))
      refine branch_d (fun h => ?_) (fun h => ?_)
      · (conv => whnf); (repeat (first | (refine arith_i ⟨by omega, by omega⟩ ?_; conv => whnf) | (refine need_i (by first | omega | (simp only [List.length_append, List.length_cons, List.length_nil]; omega)) ?_; conv => whnf) | ((with_reducible first | refine branch_tt ?_ | refine branch_ff ?_); conv => whnf) | (with_reducible refine branch_not ?_) | ((with_reducible first | refine slc_e ?_ | refine callS_a ?_ | refine bld_a ?_ | refine own_e ?_ | refine mkmap_b ?_); conv => whnf)))
        refine idx_m (by omega) (by omega) fun r hr => ?_
        rw [Int.toNat_natCast] at hr
        have hrow := rowAt_eq hr
        have hm := List.mem_of_getElem? hr
        have hit : blockedB st r = true → AV.int .i64 (j : Int) = .int .i64 (deadF P st) := fun hb => int_eq (by
          rw [hd, firstFrom_at P.rows 0 j (by omega) hall (by rw [hrow]; exact hb)]; omega)
        (conv => whnf); (repeat (first | (refine arith_i ⟨by omega, by omega⟩ ?_; conv => whnf) | (refine need_i (by first | omega | (simp only [List.length_append, List.length_cons, List.length_nil]; omega)) ?_; conv => whnf) | ((with_reducible first | refine branch_tt ?_ | refine branch_ff ?_); conv => whnf) | (with_reducible refine branch_not ?_) | ((with_reducible first | refine slc_e ?_ | refine callS_a ?_ | refine bld_a ?_ | refine own_e ?_ | refine mkmap_b ?_); conv => whnf)))
        refine call_e (span_ok r.coefs st r.least r.most (hp3 r hm) hs) ?_
        (conv => whnf); (repeat (first | (refine arith_i ⟨by omega, by omega⟩ ?_; conv => whnf) | (refine need_i (by first | omega | (simp only [List.length_append, List.length_cons, List.length_nil]; omega)) ?_; conv => whnf) | ((with_reducible first | refine branch_tt ?_ | refine branch_ff ?_); conv => whnf) | (with_reducible refine branch_not ?_) | ((with_reducible first | refine slc_e ?_ | refine callS_a ?_ | refine bld_a ?_ | refine own_e ?_ | refine mkmap_b ?_); conv => whnf)))
        have hok : spanB r.coefs st = true := by have := spanB_of hv hc (show j < P.rows.length by omega); rwa [hrow] at this
        rw [hok]
        (conv => whnf); (repeat (first | (refine arith_i ⟨by omega, by omega⟩ ?_; conv => whnf) | (refine need_i (by first | omega | (simp only [List.length_append, List.length_cons, List.length_nil]; omega)) ?_; conv => whnf) | ((with_reducible first | refine branch_tt ?_ | refine branch_ff ?_); conv => whnf) | (with_reducible refine branch_not ?_) | ((with_reducible first | refine slc_e ?_ | refine callS_a ?_ | refine bld_a ?_ | refine own_e ?_ | refine mkmap_b ?_); conv => whnf)))
        refine branch_d (fun h1 => ?_) (fun h1 => ?_)
        · (conv => whnf); (repeat (first | (refine arith_i ⟨by omega, by omega⟩ ?_; conv => whnf) | (refine need_i (by first | omega | (simp only [List.length_append, List.length_cons, List.length_nil]; omega)) ?_; conv => whnf) | ((with_reducible first | refine branch_tt ?_ | refine branch_ff ?_); conv => whnf) | (with_reducible refine branch_not ?_) | ((with_reducible first | refine slc_e ?_ | refine callS_a ?_ | refine bld_a ?_ | refine own_e ?_ | refine mkmap_b ?_); conv => whnf)))
          exact ret_p rfl (hit (by simp [blockedB, hok]; omega))
        · (conv => whnf); (repeat (first | (refine arith_i ⟨by omega, by omega⟩ ?_; conv => whnf) | (refine need_i (by first | omega | (simp only [List.length_append, List.length_cons, List.length_nil]; omega)) ?_; conv => whnf) | ((with_reducible first | refine branch_tt ?_ | refine branch_ff ?_); conv => whnf) | (with_reducible refine branch_not ?_) | ((with_reducible first | refine slc_e ?_ | refine callS_a ?_ | refine bld_a ?_ | refine own_e ?_ | refine mkmap_b ?_); conv => whnf)))
          refine branch_d (fun h2 => ?_) (fun h2 => ?_)
          · (conv => whnf); (repeat (first | (refine arith_i ⟨by omega, by omega⟩ ?_; conv => whnf) | (refine need_i (by first | omega | (simp only [List.length_append, List.length_cons, List.length_nil]; omega)) ?_; conv => whnf) | ((with_reducible first | refine branch_tt ?_ | refine branch_ff ?_); conv => whnf) | (with_reducible refine branch_not ?_) | ((with_reducible first | refine slc_e ?_ | refine callS_a ?_ | refine bld_a ?_ | refine own_e ?_ | refine mkmap_b ?_); conv => whnf)))
            exact ret_p rfl (hit (by simp [blockedB, hok]; omega))
          · (conv => whnf); (repeat (first | (refine arith_i ⟨by omega, by omega⟩ ?_; conv => whnf) | (refine need_i (by first | omega | (simp only [List.length_append, List.length_cons, List.length_nil]; omega)) ?_; conv => whnf) | ((with_reducible first | refine branch_tt ?_ | refine branch_ff ?_); conv => whnf) | (with_reducible refine branch_not ?_) | ((with_reducible first | refine slc_e ?_ | refine callS_a ?_ | refine bld_a ?_ | refine own_e ?_ | refine mkmap_b ?_); conv => whnf)))
            refine branch_d (fun h3 => ?_) (fun h3 => ?_)
            · (conv => whnf); (repeat (first | (refine arith_i ⟨by omega, by omega⟩ ?_; conv => whnf) | (refine need_i (by first | omega | (simp only [List.length_append, List.length_cons, List.length_nil]; omega)) ?_; conv => whnf) | ((with_reducible first | refine branch_tt ?_ | refine branch_ff ?_); conv => whnf) | (with_reducible refine branch_not ?_) | ((with_reducible first | refine slc_e ?_ | refine callS_a ?_ | refine bld_a ?_ | refine own_e ?_ | refine mkmap_b ?_); conv => whnf)))
              exact ret_p rfl (hit (by simp [blockedB, hok]; omega))
            · (conv => whnf); (repeat (first | (refine arith_i ⟨by omega, by omega⟩ ?_; conv => whnf) | (refine need_i (by first | omega | (simp only [List.length_append, List.length_cons, List.length_nil]; omega)) ?_; conv => whnf) | ((with_reducible first | refine branch_tt ?_ | refine branch_ff ?_); conv => whnf) | (with_reducible refine branch_not ?_) | ((with_reducible first | refine slc_e ?_ | refine callS_a ?_ | refine bld_a ?_ | refine own_e ?_ | refine mkmap_b ?_); conv => whnf)))
              refine ⟨j + 1, ⟨by omega, fun i hi => ?_⟩, le_mk ⟨rfl, rfl, rfl, rfl, trivial⟩ trivial rfl, by omega⟩
              rcases Nat.lt_or_ge i j with h' | h'
              · exact hall i h'
              · obtain rfl : i = j := by omega
                rw [hrow]
                simp [blockedB, hok]
                omega
      · (conv => whnf); (repeat (first | (refine arith_i ⟨by omega, by omega⟩ ?_; conv => whnf) | (refine need_i (by first | omega | (simp only [List.length_append, List.length_cons, List.length_nil]; omega)) ?_; conv => whnf) | ((with_reducible first | refine branch_tt ?_ | refine branch_ff ?_); conv => whnf) | (with_reducible refine branch_not ?_) | ((with_reducible first | refine slc_e ?_ | refine callS_a ?_ | refine bld_a ?_ | refine own_e ?_ | refine mkmap_b ?_); conv => whnf)))
        exact ret_p rfl (int_eq (by rw [hd, firstFrom_none P.rows 0 (fun i hi => hall i (by omega))]))
end Go.Proofs.Ytjbmdaoppiinbaa
end

/- Layer 10: the certificate's tree. -/
section
namespace Go.Proofs.Ytjbmdaoppiinbaa
set_option linter.unusedVariables false
set_option linter.unusedSimpArgs false
set_option linter.unnecessarySimpa false
set_option linter.unusedSectionVars false
set_option maxRecDepth 10000
open Go.RowKit
def plGL10d_0 : Plan := (.take 0 (.take 1 (.take 2 (.take 3 (.take 4 (.take 5 (.take 6 (.take 7 (.altE 8 (.take 9 (.take 10 (.altE 11 .done .stop))) .stop)))))))))
def plGL10d_1 : Plan := (.take 1 (.take 3 (.take 4 (.take 5 (.alt 0 (.take 6 (.take 7 (.alt 2 (.alt 8 (.take 9 (.take 10 (.alt 11 .done .stop))) .stop) (.alt 8 (.alt 2 (.take 9 (.take 10 (.alt 11 .done .stop))) .stop) .stop)))) (.alt 2 (.alt 0 (.take 6 (.take 7 (.alt 8 (.take 9 (.take 10 (.alt 11 .done .stop))) .stop))) .stop) .stop))))))
def plainN : Nd := ⟨3, 0, 0, 0, -1, 0, 1⟩
def leafN (P : Prog) (f : Bool) (b : Int) (o : Nat) (st : List Int) : Option Nd :=
  if 0 ≤ deadF P st then some ⟨2, 0, 0, 0, deadF P st, 0, 0⟩ else if o = st.length ∨ (f = true ∧ b ≤ boundF P st plainN) then some plainN else none
def treeF (P : Prog) (f : Bool) (b : Int) : Nat → Nat → List Int → Nat → List Nd
  | 0, o, st, base => [(leafN P f b o st).getD plainN]
  | m + 1, o, st, base => match leafN P f b o st with
    | some n => [n]
    | none => ⟨1, o, (base + 1 : Nat), (base + 1 + (treeF P f b m (o + 1) (st.set o 0) (base + 1)).length : Nat), 0, 0, 0⟩ :: (treeF P f b m (o + 1) (st.set o 0) (base + 1) ++ treeF P f b m (o + 1) (st.set o 1) (base + 1 + (treeF P f b m (o + 1) (st.set o 0) (base + 1)).length))
theorem tree_len {P : Prog} {f : Bool} {b : Int} : ∀ {m o : Nat} {st : List Int} {base : Nat}, (treeF P f b m o st base).length ≤ 2 ^ (m + 1) - 1
  | 0, o, st, base => by simp [treeF]
  | m + 1, o, st, base => by
    rw [treeF]
    split
    · have := Nat.one_le_two_pow (n := m + 1); rw [Nat.pow_succ]; simp; omega
    · have h1 := tree_len (P := P) (f := f) (b := b) (m := m) (o := o + 1) (st := st.set o 0) (base := base + 1)
      have h2 := tree_len (P := P) (f := f) (b := b) (m := m) (o := o + 1) (st := st.set o 1) (base := base + 1 + (treeF P f b m (o + 1) (st.set o 0) (base + 1)).length)
      have := Nat.one_le_two_pow (n := m + 1)
      rw [Nat.pow_succ]
      simp only [List.length_cons, List.length_append]
      omega
theorem tree_pos {P : Prog} {f : Bool} {b : Int} : ∀ {m o : Nat} {st : List Int} {base : Nat}, 1 ≤ (treeF P f b m o st base).length
  | 0, o, st, base => by simp [treeF]
  | m + 1, o, st, base => by rw [treeF]; split <;> simp
theorem tree_leaf {P : Prog} {f : Bool} {b : Int} {m o : Nat} {st : List Int} {base : Nat} {n : Nd} (h : leafN P f b o st = some n) : treeF P f b m o st base = [n] := by
  cases m with
  | zero => simp [treeF, h]
  | succ m => simp [treeF, h]
def growA : List AV := [.ptr 1000 0, .ptr 1001 0, .ptr 1002 0, .ptr 1003 0, .ptr 1004 0, .ptr 1005 0, .ptr 1006 0]
def gBx (P : Prog) (f : Bool) (b : Int) (st : List Int) (ns : List Nd) : List (Nat × List AV) := [(1000, [.own 1100 57 7 (ns.map encN)]), (1001, [ints P.costs, rowsV P.rows]), (1002, [.own 1102 3 1 (st.map encI)]), (1003, [.int .i64 3, .int .i64 0, .int .i64 0, .int .i64 0, .int .i64 (-1), .int .i64 0, .int .i64 1]), (1004, [.bool f]), (1005, [.int .i64 b]), (1006, [.fn 23 growA])]
theorem bound_plain {P : Prog} {st : List Int} (hv : validB P = true) (hs : stOB st P.costs.length = true) : boundV P st plainN = .tup [.int .i64 (boundF P st plainN), .bool true] := by
  have : okB P st plainN = true := by simp [okB, hv, hs, bndB, plainN]
  rw [boundV, this]
  rfl
theorem fits_of {P : Prog} (hv : validB P = true) : Fits P := by
  have h := validB_parts hv
  exact ⟨by omega, by omega, fun r hr => by have := (valid_rows hv hr).1; omega⟩
theorem snoc7 {xs : List Nd} {a b c d e f g : Int} : xs.map encN ++ [[AV.int .i64 a, AV.int .i64 b, AV.int .i64 c, AV.int .i64 d, AV.int .i64 e, AV.int .i64 f, AV.int .i64 g]] = (xs ++ [(⟨a, b, c, d, e, f, g⟩ : Nd)]).map encN := by simp [encN]
theorem un_set {st : List Int} {n o : Nat} {x : Int} (h : ∀ j, o ≤ j → j < n → nth st j = -1) : ∀ j, o + 1 ≤ j → j < n → nth (st.set o x) j = -1 := fun j h1 h2 => by
  rw [nth_set, if_neg (by omega)]; exact h j (by omega) h2
theorem set_back {st : List Int} {o : Nat} {x : Int} (h : nth st o = -1) (ho : o < st.length) : (st.set o x).set o (-1) = st := by
  rw [List.set_set]
  refine nth_ext (by simp) fun j hj => ?_
  rw [nth_set]
  split
  · next e => rw [e.1, h]
  · rfl
theorem place_at {ns a b : List Nd} {x : Nd} : (ns ++ [x] ++ a ++ b)[(((ns.map encN).length : Nat) : Int).toNat]? = some x := by
  rw [List.length_map, Int.toNat_natCast, List.append_assoc, List.append_assoc, List.getElem?_append_right (Nat.le_refl _), Nat.sub_self]
  rfl
theorem mod_at {ns a b : List Nd} {x : Nd} {g : Nd → Nd} : (ns ++ [x] ++ a ++ b).modify ns.length g = ns ++ [g x] ++ a ++ b := by
  rw [List.append_assoc, List.append_assoc, List.append_assoc, List.append_assoc]
  induction ns with
  | nil => rfl
  | cons y ns ih =>
    rw [List.cons_append, List.length_cons, List.modify_succ_cons, ih]
    rfl
theorem idx_modS {es : List (List AV)} {i : Nat} {f : List AV → List AV} {n : Int} {K : List AV → Prop} {cs : List AV} (h0 : 0 ≤ n) (hi : n.toNat = i) (h : es[i]? = some cs) (k : K (f cs)) : idx (es.modify i f) n K := by
  refine idx_i h0 ?_ k
  rw [hi, List.getElem?_modify, h]
  simp
theorem place_enc {ns a b : List Nd} {x : Nd} : ((ns ++ [x] ++ a ++ b).map encN)[(ns.map encN).length]? = some (encN x) := by
  have := place_at (ns := ns) (a := a) (b := b) (x := x)
  rw [Int.toNat_natCast] at this
  rw [List.getElem?_map, this]
  rfl
set_option maxHeartbeats 4000000 in
theorem grow_ok (P : Prog) (f : Bool) (b : Int) (hv : validB P = true) : ∀ (m o : Nat) (st : List Int) (ns : List Nd), m = P.costs.length - o → o ≤ P.costs.length → stOB st P.costs.length = true → (∀ j, o ≤ j → j < P.costs.length → nth st j = -1) → ns.length + 2 ^ (m + 1) ≤ 100000 →
    GoodM Try.prog TT false 23 (.int .i64 o :: growA) (gBx P f b st ns) (fun r ov bx => r = .int .i64 ns.length ∧ ov = [] ∧ bx = gBx P f b st (ns ++ treeF P f b m o st ns.length)) := by
  have hcl := (validB_parts hv).1
  have hfit := fits_of hv
  intro m
  induction m with
  | zero =>
    intro o st ns hm ho hst hun hns
    have hsl := st_len hst
    have LS : (st.map encI).length = st.length := List.length_map ..
    have LN : (ns.map encN).length = ns.length := List.length_map ..
    have hoe : o = st.length := by omega
    refine good_of_m (fun _ => false) mixed tabOk Try.func23 rfl rfl Try.ntmps23 Try.results23 rfl rfl ?_
    (conv => whnf); (repeat' (first | (refine arith_i ⟨by omega, by omega⟩ ?_; conv => whnf) | (refine arith_u ⟨by omega, by omega⟩ ?_; conv => whnf) | (refine arith_8 ⟨by omega, by omega⟩ ?_; conv => whnf) | (refine need_i (by first | omega | (simp only [List.length_cons, List.length_nil]; omega) | (simp only [List.length_append, List.length_cons, List.length_nil, List.length_map, List.length_replicate, List.length_modify]; omega)) ?_; conv => whnf) | ((with_reducible first | refine branch_tt ?_ | refine branch_ff ?_); conv => whnf) | (with_reducible refine branch_not ?_) | ((refine call_e (dead_ok P st hfit (by omega)) ?_); conv => whnf) | ((refine call_e ((bound_ok P st plainN hfit (by omega)).mono fun r h => h.trans (bound_plain hv hst)) ?_); conv => whnf) | ((simp only [snoc7]); conv => whnf) | ((with_reducible first | refine slc_e ?_ | refine callS_a ?_ | refine bld_a ?_ | refine own_e ?_ | refine mkmap_b ?_); conv => whnf) | (refine draw_i 12 plGL10d_0 (by decide +kernel) ?_; (conv => whnf); fail_if_success (guard_target =~ False)) | (refine draw_i 0 plGL10d_1 (by decide +kernel) ?_; (conv => whnf); fail_if_success (guard_target =~ False)) | ((with_reducible refine And.intro ?_ ?_) <;> (conv => whnf)) | (with_reducible exact trivial) | ((with_reducible first | refine branch_d (fun hq => ?_) (fun hq => ?_) | refine branch_e (fun hq => ?_) (fun hq => ?_) | refine branch_n (fun hq => ?_) (fun hq => ?_) | refine branch_i (fun hq => ?_) (fun hq => ?_)) <;> (try (exfalso; omega)) <;> (conv => whnf))))
    all_goals first
      | (have hlf : leafN P f b o st = some ⟨2, 0, 0, 0, deadF P st, 0, 0⟩ := by rw [leafN, if_pos (by assumption)]
         rw [tree_leaf hlf]
         exact retM_i (.int .i64 ns.length) [] (gBx P f b st (ns ++ [⟨2, 0, 0, 0, deadF P st, 0, 0⟩])) rfl (le_mk ⟨by rw [← LN]; rfl, trivial⟩ ⟨rfl, rfl, rfl, rfl, rfl, rfl, rfl, trivial⟩ rfl) rfl ⟨rfl, rfl, rfl⟩)
      | (have hlf : leafN P f b o st = some plainN := by rw [leafN, if_neg (by assumption), if_pos (.inl hoe)]
         rw [tree_leaf hlf]
         exact retM_i (.int .i64 ns.length) [] (gBx P f b st (ns ++ [plainN])) rfl (le_mk ⟨by rw [← LN]; rfl, trivial⟩ ⟨rfl, rfl, rfl, rfl, rfl, rfl, rfl, trivial⟩ rfl) rfl ⟨rfl, rfl, rfl⟩)
  | succ m IH =>
    intro o st ns hm ho hst hun hns
    have hsl := st_len hst
    have LS : (st.map encI).length = st.length := List.length_map ..
    have LN : (ns.map encN).length = ns.length := List.length_map ..
    have h2 := Nat.one_le_two_pow (n := m + 1)
    rw [Nat.pow_succ] at hns
    refine good_of_m (fun _ => false) mixed tabOk Try.func23 rfl rfl Try.ntmps23 Try.results23 rfl rfl ?_
    have hIH := fun (x : Int) (ns' : List Nd) (h : -1 ≤ x ∧ x ≤ 1) (h' : ns'.length + 2 ^ (m + 1) ≤ 100000) (ho' : o < P.costs.length) => IH (o + 1) (st.set o x) ns' (by omega) (by omega) (stO_set hst h) (un_set hun) h'
    obtain ⟨n1, hn1⟩ : ∃ n1 : Nd, n1 = ⟨1, o, 0, 0, 0, 0, 0⟩ := ⟨_, rfl⟩
    obtain ⟨ns1, hns1⟩ : ∃ l, l = ns ++ [(⟨1, o, 0, 0, 0, 0, 0⟩ : Nd)] := ⟨_, rfl⟩
    have L1 : ns1.length = ns.length + 1 := by rw [hns1]; simp
    obtain ⟨z, hz⟩ : ∃ l, l = treeF P f b m (o + 1) (st.set o 0) ns1.length := ⟨_, rfl⟩
    have Lz : z.length ≤ 2 ^ (m + 1) - 1 := by rw [hz]; exact tree_len
    obtain ⟨ns2, hns2⟩ : ∃ l, l = ns1 ++ z := ⟨_, rfl⟩
    have L2 : ns2.length = ns1.length + z.length := by rw [hns2]; simp
    have hI1 := fun ho' => hIH 0 ns1 (by omega) (by omega) ho'
    have hI2 := fun ho' => hIH 1 ns2 (by omega) (by omega) ho'
    rw [← hz, ← hns2] at hI1
    (conv => whnf); (repeat' (first | (refine arith_i ⟨by omega, by omega⟩ ?_; conv => whnf) | (refine arith_u ⟨by omega, by omega⟩ ?_; conv => whnf) | (refine arith_8 ⟨by omega, by omega⟩ ?_; conv => whnf) | (refine need_i (by first | omega | (simp only [List.length_cons, List.length_nil]; omega) | (simp only [List.length_append, List.length_cons, List.length_nil, List.length_map, List.length_replicate, List.length_modify]; omega)) ?_; conv => whnf) | ((with_reducible first | refine branch_tt ?_ | refine branch_ff ?_); conv => whnf) | (with_reducible refine branch_not ?_) | ((refine call_e (dead_ok P st hfit (by omega)) ?_); conv => whnf) | ((refine call_e ((bound_ok P st plainN hfit (by omega)).mono fun r h => h.trans (bound_plain hv hst)) ?_); conv => whnf) | (((refine idx_m (xs := st) (by omega) (by omega) fun y hy => ?_)); conv => whnf) | ((simp only [snoc7, Int.toNat_natCast, ← hns1]); conv => whnf) | ((refine mcall_e [(1000, 1000), (1001, 1001), (1002, 1002), (1003, 1003), (1004, 1004), (1005, 1005), (1006, 1006)] [(1100, 1100), (1102, 1102)] (hI1 (by omega)) rfl rfl rfl ⟨⟨_, rfl, rfl, rfl⟩, ⟨_, rfl, rfl, rfl⟩, ⟨_, rfl, by rw [← encI_set (xs := st) (k := o) (y := 0)]; rfl, rfl⟩, ⟨_, rfl, rfl, rfl⟩, ⟨_, rfl, rfl, rfl⟩, ⟨_, rfl, rfl, rfl⟩, ⟨_, rfl, rfl, rfl⟩, trivial⟩ rfl ?_); conv => whnf) | ((refine mcall_e [(1000, 1000), (1001, 1001), (1002, 1002), (1003, 1003), (1004, 1004), (1005, 1005), (1006, 1006)] [(1100, 1100), (1102, 1102)] (hI2 (by omega)) rfl rfl rfl ⟨⟨_, rfl, rfl, rfl⟩, ⟨_, rfl, rfl, rfl⟩, ⟨_, rfl, by rw [show st.set o 1 = (st.set o 0).set o 1 by rw [List.set_set], ← encI_set (xs := st.set o 0) (k := o) (y := 1)]; rfl, rfl⟩, ⟨_, rfl, rfl, rfl⟩, ⟨_, rfl, rfl, rfl⟩, ⟨_, rfl, rfl, rfl⟩, ⟨_, rfl, rfl, rfl⟩, trivial⟩ rfl ?_); conv => whnf) | (((refine idx_m (xs := st.set o 0) (by omega) (by simp; omega) fun y hy => ?_)); conv => whnf) | (((refine idx_m (xs := st.set o 1) (by omega) (by simp; omega) fun y hy => ?_)); conv => whnf) | (((refine idx_ms (x := ⟨1, o, 0, 0, 0, 0, 0⟩) (by omega) (by rw [hns2, hns1]; exact place_at) ?_)); conv => whnf) | (((refine idx_modS (cs := encN ⟨1, o, 0, 0, 0, 0, 0⟩) (by omega) (by omega) (by rw [hns2, hns1]; exact place_enc) ?_)); conv => whnf) | ((with_reducible first | refine slc_e ?_ | refine callS_a ?_ | refine bld_a ?_ | refine own_e ?_ | refine mkmap_b ?_); conv => whnf) | (refine draw_i 12 plGL10d_0 (by decide +kernel) ?_; (conv => whnf); fail_if_success (guard_target =~ False)) | (refine draw_i 0 plGL10d_1 (by decide +kernel) ?_; (conv => whnf); fail_if_success (guard_target =~ False)) | ((with_reducible refine And.intro ?_ ?_) <;> (conv => whnf)) | (with_reducible exact trivial) | ((with_reducible first | refine branch_d (fun hq => ?_) (fun hq => ?_) | refine branch_e (fun hq => ?_) (fun hq => ?_) | refine branch_n (fun hq => ?_) (fun hq => ?_) | refine branch_i (fun hq => ?_) (fun hq => ?_)) <;> (try (exfalso; omega)) <;> (conv => whnf))))
    all_goals first
      | (have hlf : leafN P f b o st = some ⟨2, 0, 0, 0, deadF P st, 0, 0⟩ := by rw [leafN, if_pos (by assumption)]
         rw [tree_leaf hlf]
         exact retM_i (.int .i64 ns.length) [] (gBx P f b st (ns ++ [⟨2, 0, 0, 0, deadF P st, 0, 0⟩])) rfl (le_mk ⟨by rw [← LN]; rfl, trivial⟩ ⟨rfl, rfl, rfl, rfl, rfl, rfl, rfl, trivial⟩ rfl) rfl ⟨rfl, rfl, rfl⟩)
      | (have hlf : leafN P f b o st = some plainN := by rw [leafN, if_neg (by assumption), if_pos (.inr ⟨by assumption, by assumption⟩)]
         rw [tree_leaf hlf]
         exact retM_i (.int .i64 ns.length) [] (gBx P f b st (ns ++ [plainN])) rfl (le_mk ⟨by rw [← LN]; rfl, trivial⟩ ⟨rfl, rfl, rfl, rfl, rfl, rfl, rfl, trivial⟩ rfl) rfl ⟨rfl, rfl, rfl⟩)
      | (have hlf : leafN P f b o st = none := by
           rw [leafN, if_neg (by assumption), if_neg]
           rintro (h | ⟨h, h'⟩)
           · omega
           · simp_all
         have hfin : ns ++ treeF P f b (m + 1) o st ns.length = ((ns2 ++ treeF P f b m (o + 1) (st.set o 1) ns2.length).modify ns.length (fun n => { n with zero := ns1.length })).modify ns.length (fun n => { n with one := ns2.length }) := by
           rw [treeF, hlf, hns2, hns1, mod_at, mod_at]
           simp only
           rw [← hns1, ← L1, ← hz, ← L2, hns2]
           simp
         have hback := set_back (x := 1) (hun o (Nat.le_refl _) (by omega)) (show o < st.length by omega)
         rw [hfin]
         refine retM_i (.int .i64 ns.length) [] (gBx P f b st (((ns2 ++ treeF P f b m (o + 1) (st.set o 1) ns2.length).modify ns.length (fun n => { n with zero := ns1.length })).modify ns.length (fun n => { n with one := ns2.length }))) rfl (le_mk ⟨by rw [← LN]; rfl, trivial⟩ ⟨?_, rfl, ?_, rfl, rfl, rfl, rfl, trivial⟩ rfl) rfl ⟨rfl, rfl, rfl⟩
         · rw [← map_modify (enc := encN) (f := fun c => c.set 3 (.int .i64 ns2.length)) (fun x => rfl), ← map_modify (enc := encN) (f := fun c => c.set 2 (.int .i64 ns1.length)) (fun x => rfl), ← LN]
           rfl
         · conv => rhs; rw [← hback]
           rw [← encI_set (xs := st.set o 1) (k := o) (y := -1)]
           rfl)
/-- The certificate. -/
def certF (P : Prog) (f : Bool) (b : Int) : List Nd := treeF P f b P.costs.length 0 (List.replicate P.costs.length (-1)) 0
set_option maxHeartbeats 4000000 in
theorem cert_ok (P : Prog) (f : Bool) (b : Int) (hv : validB P = true) : Good Try.prog TT false 11 [progV P, .bool f, .int .i64 b] (· = ndsV (certF P f b)) := by
  have hcl := (validB_parts hv).1
  have LC : (P.costs.map encI).length = P.costs.length := List.length_map ..
  have hpow : 2 ^ (P.costs.length + 1) ≤ 2 ^ 13 := Nat.pow_le_pow_right (by omega) (by omega)
  have hg := grow_ok P f b hv P.costs.length 0 (List.replicate P.costs.length (-1)) [] (by omega) (by omega) (by simp [stOB, tri9]) (fun j _ h => by simp [nth, List.getD_eq_getElem?_getD, h]) (by simp; omega)
  refine good_of mixed tabOk Try.func11 rfl rfl Try.ntmps11 Try.results11 rfl rfl ?_
  (conv => whnf); (repeat' (first | (refine arith_i ⟨by omega, by omega⟩ ?_; conv => whnf) | (refine arith_u ⟨by omega, by omega⟩ ?_; conv => whnf) | (refine arith_8 ⟨by omega, by omega⟩ ?_; conv => whnf) | (refine need_i (by first | omega | (simp only [List.length_cons, List.length_nil]; omega) | (simp only [List.length_append, List.length_cons, List.length_nil, List.length_map, List.length_replicate, List.length_modify]; omega)) ?_; conv => whnf) | ((with_reducible first | refine branch_tt ?_ | refine branch_ff ?_); conv => whnf) | (with_reducible refine branch_not ?_) | (((rw [LC]; refine call_e (repeat_ok P.costs.length hcl) ?_)); conv => whnf) | (((refine mcall_i [(1000, 9), (1001, 3), (1002, 7), (1003, 8), (1004, 4), (1005, 5), (1006, 10)] [(1100, 1100), (1102, 15)] _ (le_adoptBox 9 0 1100 57 7 rfl rfl) hg rfl rfl rfl ⟨⟨_, rfl, rfl, rfl⟩, ⟨_, rfl, rfl, rfl⟩, ⟨_, rfl, rfl, rfl⟩, ⟨_, rfl, rfl, rfl⟩, ⟨_, rfl, rfl, rfl⟩, ⟨_, rfl, rfl, rfl⟩, ⟨_, rfl, rfl, rfl⟩, trivial⟩ ?_; rintro r ov bx' ⟨rfl, rfl, rfl⟩; refine ⟨rfl, ?_⟩)); conv => whnf) | ((with_reducible first | refine slc_e ?_ | refine callS_a ?_ | refine bld_a ?_ | refine own_e ?_ | refine mkmap_b ?_); conv => whnf) | ((with_reducible first | refine branch_d (fun hq => ?_) (fun hq => ?_) | refine branch_e (fun hq => ?_) (fun hq => ?_) | refine branch_n (fun hq => ?_) (fun hq => ?_) | refine branch_i (fun hq => ?_) (fun hq => ?_)) <;> (try (exfalso; omega)) <;> (conv => whnf))))
  exact ret_ol rfl
/-! Solve and All -/
/-- What Solve returns. -/
def solveV (P : Prog) : AV := if validB P = true then .tup [.agg [.bool (bestF P).1, ints (bestF P).2.2, .int .i64 (bestF P).2.1, ndsV (certF P (bestF P).1 (bestF P).2.1)], .int .i64 0] else .tup [.agg [.bool false, ints [], .int .i64 0, .lst 7 []], .int .i64 1]
set_option maxHeartbeats 4000000 in
theorem solve_ok (P : Prog) (hP : Fits P) : Good Try.prog TT false 4 [progV P] (· = solveV P) := by
  refine good_of mixed tabOk Try.func4 rfl rfl Try.ntmps4 Try.results4 rfl rfl ?_
  (conv => whnf); (repeat' (first | (refine arith_i ⟨by omega, by omega⟩ ?_; conv => whnf) | (refine arith_u ⟨by omega, by omega⟩ ?_; conv => whnf) | (refine arith_8 ⟨by omega, by omega⟩ ?_; conv => whnf) | (refine need_i (by first | omega | (simp only [List.length_cons, List.length_nil]; omega) | (simp only [List.length_append, List.length_cons, List.length_nil, List.length_map, List.length_replicate, List.length_modify]; omega)) ?_; conv => whnf) | ((with_reducible first | refine branch_tt ?_ | refine branch_ff ?_); conv => whnf) | (with_reducible refine branch_not ?_) | ((refine call_e (valid_ok P hP.1 hP.2.1 hP.2.2) ?_); conv => whnf) | (((have hv : validB P = true := hq; refine mcall_i [(1010, 4)] [] _ (le_nilBox 4 1 1 rfl rfl) (eachS_ok P (false, 0, []) hv trivial) rfl rfl rfl ⟨⟨_, rfl, rfl, rfl⟩, trivial⟩ ?_; rintro r ov bx' ⟨rfl, rfl, rfl⟩; refine ⟨rfl, ?_⟩)); conv => whnf) | ((refine call_e (cert_ok P _ _ hv) ?_); conv => whnf) | ((with_reducible first | refine slc_e ?_ | refine callS_a ?_ | refine bld_a ?_ | refine own_e ?_ | refine mkmap_b ?_); conv => whnf) | ((with_reducible first | refine branch_d (fun hq => ?_) (fun hq => ?_) | refine branch_e (fun hq => ?_) (fun hq => ?_) | refine branch_n (fun hq => ?_) (fun hq => ?_) | refine branch_i (fun hq => ?_) (fun hq => ?_)) <;> (try (exfalso; omega)) <;> (conv => whnf))))
  · exact ret_t (rs := [.agg [.bool (bestF P).1, ints (bestF P).2.2, .int .i64 (bestF P).2.1, ndsV (certF P (bestF P).1 (bestF P).2.1)], .int .i64 0]) ⟨.inr ⟨_, _, rfl, rfl, rc_p rfl, rc_p rfl, rc_p rfl, rc_p rfl, trivial⟩, (rc_p rfl).g, trivial⟩ (by rw [solveV, if_pos hq])
  · exact ret_t (rs := [.agg [.bool false, ints [], .int .i64 0, .lst 7 []], .int .i64 1]) ⟨.inr ⟨_, _, rfl, rfl, rc_p rfl, rc_n, rc_p rfl, rc_n, trivial⟩, (rc_p rfl).g, trivial⟩ (by rw [solveV, if_neg (by simp [hq])])
end Go.Proofs.Ytjbmdaoppiinbaa
end

/- From a contract of the interpreter to a law's call. -/
section
namespace Go.Proofs.Ytjbmdaoppiinbaa
set_option linter.unusedVariables false
set_option linter.unusedSimpArgs false
set_option linter.unnecessarySimpa false
set_option linter.unusedSectionVars false
open Go.RowKit

end Go.Proofs.Ytjbmdaoppiinbaa
end
