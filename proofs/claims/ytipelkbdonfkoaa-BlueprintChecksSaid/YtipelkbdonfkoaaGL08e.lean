/- Layer 8 by the interpreter: awake, and the law BlueprintSound. -/
import Derived.Test.YtipelkbdonfkoaaGL08d
import Derived.Test.YtipelkbdonfkoaaGBr
namespace Go.Proofs.Ytipelkbdonfkoaa
set_option linter.unusedVariables false
set_option linter.unusedSimpArgs false
set_option linter.unnecessarySimpa false
set_option linter.unusedSectionVars false
set_option maxRecDepth 10000
open Go.RowKit

def awakeP : Prog := ⟨[1, 1, 1], [⟨[1, 1, 1], 1, 2⟩, ⟨[4, 5, 6], 9, 10⟩, ⟨[0, 1, 1], 0, 1⟩]⟩
theorem awakeP_fits : Fits awakeP := ⟨by decide, by decide, by decide⟩
theorem awake_ok : Good Try.prog TT false 18 [] (· = .bool true) := by
  refine good_of mixed tabOk Try.func18 rfl rfl Try.ntmps18 Try.results18 rfl rfl ?_
  (conv => whnf); (repeat (first | (refine arith_i ⟨by omega, by omega⟩ ?_; conv => whnf) | (refine need_i (by first | omega | (simp only [List.length_cons, List.length_nil]; omega)) ?_; conv => whnf) | ((with_reducible refine branch_tt ?_); conv => whnf) | ((with_reducible refine branch_ff ?_); conv => whnf) | (with_reducible refine branch_not ?_)))
  have e1 : spanV [4, 5, 6] [0, -1, -1] = .tup [.int .i64 0, .int .i64 11, .bool true] := rfl
  refine idx_i (by omega) rfl ?_
  (conv => whnf); (repeat (first | (refine arith_i ⟨by omega, by omega⟩ ?_; conv => whnf) | (refine need_i (by first | omega | (simp only [List.length_cons, List.length_nil]; omega)) ?_; conv => whnf) | ((with_reducible refine branch_tt ?_); conv => whnf) | ((with_reducible refine branch_ff ?_); conv => whnf) | (with_reducible refine branch_not ?_)))
  refine call_e ((span_ok [4, 5, 6] [0, -1, -1] 9 10 (by decide) (by decide)).mono fun r h => h.trans e1) ?_
  (conv => whnf); (repeat (first | (refine arith_i ⟨by omega, by omega⟩ ?_; conv => whnf) | (refine need_i (by first | omega | (simp only [List.length_cons, List.length_nil]; omega)) ?_; conv => whnf) | ((with_reducible refine branch_tt ?_); conv => whnf) | ((with_reducible refine branch_ff ?_); conv => whnf) | (with_reducible refine branch_not ?_)))
  have e2 : meetsB awakeP [0, 1] = true := by decide
  have e3 : meetsB awakeP [1, 2] = false := by decide
  have e4 : deadF awakeP [0, -1, -1] = -1 := by decide
  refine call_e ((meets_ok awakeP [0, 1] awakeP_fits (by decide)).mono fun r h => h.trans (bool_eq e2)) ?_
  (conv => whnf); (repeat (first | (refine arith_i ⟨by omega, by omega⟩ ?_; conv => whnf) | (refine need_i (by first | omega | (simp only [List.length_cons, List.length_nil]; omega)) ?_; conv => whnf) | ((with_reducible refine branch_tt ?_); conv => whnf) | ((with_reducible refine branch_ff ?_); conv => whnf) | (with_reducible refine branch_not ?_)))
  refine call_e ((meets_ok awakeP [1, 2] awakeP_fits (by decide)).mono fun r h => h.trans (bool_eq e3)) ?_
  (conv => whnf); (repeat (first | (refine arith_i ⟨by omega, by omega⟩ ?_; conv => whnf) | (refine need_i (by first | omega | (simp only [List.length_cons, List.length_nil]; omega)) ?_; conv => whnf) | ((with_reducible refine branch_tt ?_); conv => whnf) | ((with_reducible refine branch_ff ?_); conv => whnf) | (with_reducible refine branch_not ?_)))
  refine branch_t rfl ?_
  (conv => whnf); (repeat (first | (refine arith_i ⟨by omega, by omega⟩ ?_; conv => whnf) | (refine need_i (by first | omega | (simp only [List.length_cons, List.length_nil]; omega)) ?_; conv => whnf) | ((with_reducible refine branch_tt ?_); conv => whnf) | ((with_reducible refine branch_ff ?_); conv => whnf) | (with_reducible refine branch_not ?_)))
  refine branch_t rfl ?_
  (conv => whnf); (repeat (first | (refine arith_i ⟨by omega, by omega⟩ ?_; conv => whnf) | (refine need_i (by first | omega | (simp only [List.length_cons, List.length_nil]; omega)) ?_; conv => whnf) | ((with_reducible refine branch_tt ?_); conv => whnf) | ((with_reducible refine branch_ff ?_); conv => whnf) | (with_reducible refine branch_not ?_)))
  refine call_e ((dead_ok awakeP [0, -1, -1] awakeP_fits (by decide)).mono fun r h => h.trans (int_eq e4)) ?_
  (conv => whnf); (repeat (first | (refine arith_i ⟨by omega, by omega⟩ ?_; conv => whnf) | (refine need_i (by first | omega | (simp only [List.length_cons, List.length_nil]; omega)) ?_; conv => whnf) | ((with_reducible refine branch_tt ?_); conv => whnf) | ((with_reducible refine branch_ff ?_); conv => whnf) | (with_reducible refine branch_not ?_)))
  exact ret_p rfl rfl
theorem shl_pow {n N : Nat} (hn : n ≤ 12) (hN : N = 2 ^ n) : (1 : Int) * 2 ^ (min (n : Int).toNat IntKind.i64.bits) = (N : Int) := by
  have e : min (n : Int).toNat IntKind.i64.bits = n := by
    have : IntKind.i64.bits = 64 := rfl
    omega
  rw [e, hN]; simp
set_option maxHeartbeats 1000000 in
theorem sound_law (xs : List Int) (hx : xs.length ≤ 9223372036854775807) : Good Try.prog TT false 5 [ints xs] (· = .bool true) := by
  refine good_of mixed tabOk Try.func5 rfl rfl Try.ntmps5 Try.results5 rfl rfl ?_
  (conv => whnf); (repeat (first | (refine arith_i ⟨by omega, by omega⟩ ?_; conv => whnf) | (refine need_i (by first | omega | (simp only [List.length_cons, List.length_nil]; omega)) ?_; conv => whnf) | ((with_reducible refine branch_tt ?_); conv => whnf) | ((with_reducible refine branch_ff ?_); conv => whnf) | (with_reducible refine branch_not ?_)))
  refine call_e (new_ok xs hx) ?_
  (conv => whnf); (repeat (first | (refine arith_i ⟨by omega, by omega⟩ ?_; conv => whnf) | (refine need_i (by first | omega | (simp only [List.length_cons, List.length_nil]; omega)) ?_; conv => whnf) | ((with_reducible refine branch_tt ?_); conv => whnf) | ((with_reducible refine branch_ff ?_); conv => whnf) | (with_reducible refine branch_not ?_)))
  refine call_i (program_ok 5 (by omega)) fun r hr => ?_
  obtain ⟨P, rfl, hP⟩ := hr
  have LC : (P.costs.map encI).length = P.costs.length := List.length_map ..
  have LR : (P.rows.map encRow).length = P.rows.length := List.length_map ..
  have hv := progG_valid hP (by omega)
  have h5 : P.costs.length ≤ 5 := by have := hP.len; omega
  have h3 := hP.rows
  have hfit : Fits P := ⟨by omega, by omega, fun r hr => by have := (hP.row r hr).1; omega⟩
  (conv => whnf); (repeat (first | (refine arith_i ⟨by omega, by omega⟩ ?_; conv => whnf) | (refine need_i (by first | omega | (simp only [List.length_cons, List.length_nil]; omega)) ?_; conv => whnf) | ((with_reducible refine branch_tt ?_); conv => whnf) | ((with_reducible refine branch_ff ?_); conv => whnf) | (with_reducible refine branch_not ?_)))
  rw [LC]
  refine call_i (state_ok P.costs.length (by omega)) fun r hr => ?_
  obtain ⟨st, rfl, hl, hst⟩ := hr
  have LS : (st.map encI).length = st.length := List.length_map ..
  have hlen : st.length = P.costs.length := by omega
  have htri : AllTo triB st st.length := fun i hi => triB_iff.2 (hst _ (nth_mem hi))
  have his : isStateB st P.costs.length = true := by
    simp only [isStateB, hlen, decide_true, Bool.true_and, Bool.and_eq_true, decide_eq_true_eq]
    exact ⟨by omega, AllTo.full htri (Nat.le_refl _)⟩
  obtain ⟨N, hN⟩ : ∃ N : Nat, N = 2 ^ P.costs.length := ⟨_, rfl⟩
  have hN32 : N ≤ 32 := by rw [hN]; exact Nat.pow_le_pow_right (by omega) h5
  have eN := shl_pow (by omega) hN
  (conv => whnf); (repeat (first | (refine arith_i ⟨by omega, by omega⟩ ?_; conv => whnf) | (refine need_i (by first | omega | (simp only [List.length_cons, List.length_nil]; omega)) ?_; conv => whnf) | ((with_reducible refine branch_tt ?_); conv => whnf) | ((with_reducible refine branch_ff ?_); conv => whnf) | (with_reducible refine branch_not ?_)))
  refine call_e (dead_ok P st hfit (by omega)) ?_
  (conv => whnf); (repeat (first | (refine arith_i ⟨by omega, by omega⟩ ?_; conv => whnf) | (refine need_i (by first | omega | (simp only [List.length_cons, List.length_nil]; omega)) ?_; conv => whnf) | ((with_reducible refine branch_tt ?_); conv => whnf) | ((with_reducible refine branch_ff ?_); conv => whnf) | (with_reducible refine branch_not ?_)))
  refine call_e (has_ok st (-1) (by omega)) ?_
  (conv => whnf); (repeat (first | (refine arith_i ⟨by omega, by omega⟩ ?_; conv => whnf) | (refine need_i (by first | omega | (simp only [List.length_cons, List.length_nil]; omega)) ?_; conv => whnf) | ((with_reducible refine branch_tt ?_); conv => whnf) | ((with_reducible refine branch_ff ?_); conv => whnf) | (with_reducible refine branch_not ?_)))
  refine loop_i (fun j : Nat => j ≤ P.rows.length) (fun j => mkSt [(4, .ptr 4 0), (5, .int .i64 P.costs.length), (6, ints st), (7, .int .i64 (deadF P st)), (8, .bool (hasB st (-1))), (9, .int .i64 j)] [(4, [ints P.costs, rowsV P.rows])] true) (fun j => P.rows.length - j) 0 (Nat.zero_le _) (le_mk ⟨rfl, rfl, rfl, rfl, rfl, rfl, trivial⟩ ⟨rfl, trivial⟩ rfl) ?_
  intro j hj
  (conv => whnf); (repeat (first | (refine arith_i ⟨by omega, by omega⟩ ?_; conv => whnf) | (refine need_i (by first | omega | (simp only [List.length_cons, List.length_nil]; omega)) ?_; conv => whnf) | ((with_reducible refine branch_tt ?_); conv => whnf) | ((with_reducible refine branch_ff ?_); conv => whnf) | (with_reducible refine branch_not ?_)))
  refine branch_d (fun h => ?_) (fun h => ?_)
  · (conv => whnf); (repeat (first | (refine arith_i ⟨by omega, by omega⟩ ?_; conv => whnf) | (refine need_i (by first | omega | (simp only [List.length_cons, List.length_nil]; omega)) ?_; conv => whnf) | ((with_reducible refine branch_tt ?_); conv => whnf) | ((with_reducible refine branch_ff ?_); conv => whnf) | (with_reducible refine branch_not ?_)))
    refine idx_m (by omega) (by omega) fun r hr => ?_
    rw [Int.toNat_natCast] at hr
    have hrow := rowAt_eq hr
    have hmem := List.mem_of_getElem? hr
    obtain ⟨r1, r2, -, -⟩ := valid_rows hv hmem
    have hok : spanB r.coefs st = true := by have := spanB_of hv his (show j < P.rows.length by omega); rwa [hrow] at this
    have hsf : spanF r.coefs st = spanTo r.coefs st st.length := by rw [spanF, hok, if_pos rfl, r1, hlen]
    have bd := span_bd (cs := r.coefs) (st := st)
    rw [hsf] at bd
    (conv => whnf); (repeat (first | (refine arith_i ⟨by omega, by omega⟩ ?_; conv => whnf) | (refine need_i (by first | omega | (simp only [List.length_cons, List.length_nil]; omega)) ?_; conv => whnf) | ((with_reducible refine branch_tt ?_); conv => whnf) | ((with_reducible refine branch_ff ?_); conv => whnf) | (with_reducible refine branch_not ?_)))
    refine call_e (span_ok r.coefs st r.least r.most (by omega) (by omega)) ?_
    (conv => whnf); (repeat (first | (refine arith_i ⟨by omega, by omega⟩ ?_; conv => whnf) | (refine need_i (by first | omega | (simp only [List.length_cons, List.length_nil]; omega)) ?_; conv => whnf) | ((with_reducible refine branch_tt ?_); conv => whnf) | ((with_reducible refine branch_ff ?_); conv => whnf) | (with_reducible refine branch_not ?_)))
    rw [hsf, hok]
    refine loop_i (fun p : Nat × Int × Int => p.1 ≤ N ∧ MM r.coefs st st.length p.1 p.2.1 p.2.2) (fun p => mkSt [(4, .ptr 4 0), (5, .int .i64 P.costs.length), (6, ints st), (7, .int .i64 (deadF P st)), (8, .bool (hasB st (-1))), (9, .int .i64 j), (10, .int .i64 (spanTo r.coefs st st.length).1), (11, .int .i64 (spanTo r.coefs st st.length).2), (12, .bool true), (13, .int .i64 p.2.1), (14, .int .i64 p.2.2), (15, .int .i64 p.1)] [(4, [ints P.costs, rowsV P.rows])] true) (fun p => N - p.1) (0, 1073741824, -1073741824) ⟨Nat.zero_le _, MM.zero⟩ (le_mk ⟨rfl, rfl, rfl, rfl, rfl, rfl, rfl, rfl, rfl, rfl, rfl, rfl, trivial⟩ ⟨rfl, trivial⟩ rfl) ?_
    rintro ⟨t, l, m⟩ ⟨ht, hmm⟩
    have ht' : t ≤ N := ht
    replace hmm : MM r.coefs st st.length t l m := hmm
    (conv => whnf); (repeat (first | (refine arith_i ⟨by omega, by omega⟩ ?_; conv => whnf) | (refine need_i (by first | omega | (simp only [List.length_cons, List.length_nil]; omega)) ?_; conv => whnf) | ((with_reducible refine branch_tt ?_); conv => whnf) | ((with_reducible refine branch_ff ?_); conv => whnf) | (with_reducible refine branch_not ?_)))
    refine arith_u (by omega) ?_
    (conv => whnf); (repeat (first | (refine arith_i ⟨by omega, by omega⟩ ?_; conv => whnf) | (refine need_i (by first | omega | (simp only [List.length_cons, List.length_nil]; omega)) ?_; conv => whnf) | ((with_reducible refine branch_tt ?_); conv => whnf) | ((with_reducible refine branch_ff ?_); conv => whnf) | (with_reducible refine branch_not ?_)))
    refine branch_d (fun h1 => ?_) (fun h1 => ?_)
    · have h1' : t < N := by rw [eN] at h1; exact Int.ofNat_lt.1 h1
      (conv => whnf); (repeat (first | (refine arith_i ⟨by omega, by omega⟩ ?_; conv => whnf) | (refine need_i (by first | omega | (simp only [List.length_cons, List.length_nil]; omega)) ?_; conv => whnf) | ((with_reducible refine branch_tt ?_); conv => whnf) | ((with_reducible refine branch_ff ?_); conv => whnf) | (with_reducible refine branch_not ?_)))
      refine call_e (subset_ok P.costs.length t (by omega) (by omega)) ?_
      have hsl := sub_len t P.costs.length
      (conv => whnf); (repeat (first | (refine arith_i ⟨by omega, by omega⟩ ?_; conv => whnf) | (refine need_i (by first | omega | (simp only [List.length_cons, List.length_nil]; omega)) ?_; conv => whnf) | ((with_reducible refine branch_tt ?_); conv => whnf) | ((with_reducible refine branch_ff ?_); conv => whnf) | (with_reducible refine branch_not ?_)))
      refine call_e (complete_ok st (subTo t P.costs.length) (by omega) (by omega)) ?_
      (conv => whnf); (repeat (first | (refine arith_i ⟨by omega, by omega⟩ ?_; conv => whnf) | (refine need_i (by first | omega | (simp only [List.length_cons, List.length_nil]; omega)) ?_; conv => whnf) | ((with_reducible refine branch_tt ?_); conv => whnf) | ((with_reducible refine branch_ff ?_); conv => whnf) | (with_reducible refine branch_not ?_)))
      cases hc : completeB st (subTo t P.costs.length) with
      | true =>
        have hcc : Compl st t := com_sub.1 (by rw [hlen]; exact hc)
        (conv => whnf); (repeat (first | (refine arith_i ⟨by omega, by omega⟩ ?_; conv => whnf) | (refine need_i (by first | omega | (simp only [List.length_cons, List.length_nil]; omega)) ?_; conv => whnf) | ((with_reducible refine branch_tt ?_); conv => whnf) | ((with_reducible refine branch_ff ?_); conv => whnf) | (with_reducible refine branch_not ?_)))
        refine idx_m (by omega) (by omega) fun r' hr' => ?_
        rw [Int.toNat_natCast, hr] at hr'
        injection hr' with hr'
        subst hr'
        (conv => whnf); (repeat (first | (refine arith_i ⟨by omega, by omega⟩ ?_; conv => whnf) | (refine need_i (by first | omega | (simp only [List.length_cons, List.length_nil]; omega)) ?_; conv => whnf) | ((with_reducible refine branch_tt ?_); conv => whnf) | ((with_reducible refine branch_ff ?_); conv => whnf) | (with_reducible refine branch_not ?_)))
        refine call_e (sum_ok r.coefs (subTo t P.costs.length) (by omega) r2 (fun i hi => by rw [r1]; exact choice_in (sub_choice t P.costs.length) hi)) ?_
        (conv => whnf); (repeat (first | (refine arith_i ⟨by omega, by omega⟩ ?_; conv => whnf) | (refine need_i (by first | omega | (simp only [List.length_cons, List.length_nil]; omega)) ?_; conv => whnf) | ((with_reducible refine branch_tt ?_); conv => whnf) | ((with_reducible refine branch_ff ?_); conv => whnf) | (with_reducible refine branch_not ?_)))
        refine ⟨(t + 1, _, _), ⟨by show t + 1 ≤ N; omega, hmm.take hcc (l' := if sumOf r.coefs (subTo t P.costs.length) < l then sumOf r.coefs (subTo t P.costs.length) else l) (m' := if sumOf r.coefs (subTo t P.costs.length) > m then sumOf r.coefs (subTo t P.costs.length) else m) ?_ ?_⟩, le_mk ⟨rfl, rfl, rfl, rfl, rfl, rfl, rfl, rfl, rfl, rfl, rfl, rfl, trivial⟩ ⟨rfl, trivial⟩ rfl, by show N - (t + 1) < N - t; omega⟩
        · rw [sumOf_sub, hlen]; split <;> omega
        · rw [sumOf_sub, hlen]; split <;> omega
      | false =>
        have hcc : ¬ Compl st t := fun h => by rw [← com_sub, hlen, hc] at h; cases h
        (conv => whnf); (repeat (first | (refine arith_i ⟨by omega, by omega⟩ ?_; conv => whnf) | (refine need_i (by first | omega | (simp only [List.length_cons, List.length_nil]; omega)) ?_; conv => whnf) | ((with_reducible refine branch_tt ?_); conv => whnf) | ((with_reducible refine branch_ff ?_); conv => whnf) | (with_reducible refine branch_not ?_)))
        exact ⟨(t + 1, l, m), ⟨by show t + 1 ≤ N; omega, hmm.skip hcc⟩, le_mk ⟨rfl, rfl, rfl, rfl, rfl, rfl, rfl, rfl, rfl, rfl, rfl, rfl, trivial⟩ ⟨rfl, trivial⟩ rfl, by show N - (t + 1) < N - t; omega⟩
    · have h1' : t = N := by rw [eN] at h1; exact Nat.le_antisymm ht' (Nat.ge_of_not_lt fun hh => h1 (Int.ofNat_lt.2 hh))
      have hd := MM.done hmm (by show t = _; rw [h1', hN, hlen]) htri bd
      have hd1 : l = _ := hd.1
      have hd2 : m = _ := hd.2
      (conv => whnf); (repeat (first | (refine arith_i ⟨by omega, by omega⟩ ?_; conv => whnf) | (refine need_i (by first | omega | (simp only [List.length_cons, List.length_nil]; omega)) ?_; conv => whnf) | ((with_reducible refine branch_tt ?_); conv => whnf) | ((with_reducible refine branch_ff ?_); conv => whnf) | (with_reducible refine branch_not ?_)))
      refine branch_n (fun hh => absurd hd1 hh) (fun hh => ?_)
      (conv => whnf); (repeat (first | (refine arith_i ⟨by omega, by omega⟩ ?_; conv => whnf) | (refine need_i (by first | omega | (simp only [List.length_cons, List.length_nil]; omega)) ?_; conv => whnf) | ((with_reducible refine branch_tt ?_); conv => whnf) | ((with_reducible refine branch_ff ?_); conv => whnf) | (with_reducible refine branch_not ?_)))
      refine branch_n (fun hh => absurd hd2 hh) (fun hh => ?_)
      (conv => whnf); (repeat (first | (refine arith_i ⟨by omega, by omega⟩ ?_; conv => whnf) | (refine need_i (by first | omega | (simp only [List.length_cons, List.length_nil]; omega)) ?_; conv => whnf) | ((with_reducible refine branch_tt ?_); conv => whnf) | ((with_reducible refine branch_ff ?_); conv => whnf) | (with_reducible refine branch_not ?_)))
      exact ⟨j + 1, by omega, le_mk ⟨rfl, rfl, rfl, rfl, rfl, rfl, trivial⟩ ⟨rfl, trivial⟩ rfl, by omega⟩
  · (conv => whnf); (repeat (first | (refine arith_i ⟨by omega, by omega⟩ ?_; conv => whnf) | (refine need_i (by first | omega | (simp only [List.length_cons, List.length_nil]; omega)) ?_; conv => whnf) | ((with_reducible refine branch_tt ?_); conv => whnf) | ((with_reducible refine branch_ff ?_); conv => whnf) | (with_reducible refine branch_not ?_)))
    refine loop_i (fun t : Nat => t ≤ N) (fun t => mkSt [(4, .ptr 4 0), (5, .int .i64 P.costs.length), (6, ints st), (7, .int .i64 (deadF P st)), (8, .bool (hasB st (-1))), (18, .int .i64 t)] [(4, [ints P.costs, rowsV P.rows])] true) (fun t => N - t) 0 (Nat.zero_le _) (le_mk ⟨rfl, rfl, rfl, rfl, rfl, rfl, trivial⟩ ⟨rfl, trivial⟩ rfl) ?_
    intro t ht
    (conv => whnf); (repeat (first | (refine arith_i ⟨by omega, by omega⟩ ?_; conv => whnf) | (refine need_i (by first | omega | (simp only [List.length_cons, List.length_nil]; omega)) ?_; conv => whnf) | ((with_reducible refine branch_tt ?_); conv => whnf) | ((with_reducible refine branch_ff ?_); conv => whnf) | (with_reducible refine branch_not ?_)))
    refine arith_u (by omega) ?_
    (conv => whnf); (repeat (first | (refine arith_i ⟨by omega, by omega⟩ ?_; conv => whnf) | (refine need_i (by first | omega | (simp only [List.length_cons, List.length_nil]; omega)) ?_; conv => whnf) | ((with_reducible refine branch_tt ?_); conv => whnf) | ((with_reducible refine branch_ff ?_); conv => whnf) | (with_reducible refine branch_not ?_)))
    refine branch_d (fun h1 => ?_) (fun h1 => ?_)
    · have h1' : t < N := by rw [eN] at h1; exact Int.ofNat_lt.1 h1
      (conv => whnf); (repeat (first | (refine arith_i ⟨by omega, by omega⟩ ?_; conv => whnf) | (refine need_i (by first | omega | (simp only [List.length_cons, List.length_nil]; omega)) ?_; conv => whnf) | ((with_reducible refine branch_tt ?_); conv => whnf) | ((with_reducible refine branch_ff ?_); conv => whnf) | (with_reducible refine branch_not ?_)))
      refine call_e (subset_ok P.costs.length t (by omega) (by omega)) ?_
      have hsl := sub_len t P.costs.length
      (conv => whnf); (repeat (first | (refine arith_i ⟨by omega, by omega⟩ ?_; conv => whnf) | (refine need_i (by first | omega | (simp only [List.length_cons, List.length_nil]; omega)) ?_; conv => whnf) | ((with_reducible refine branch_tt ?_); conv => whnf) | ((with_reducible refine branch_ff ?_); conv => whnf) | (with_reducible refine branch_not ?_)))
      refine call_e (complete_ok st (subTo t P.costs.length) (by omega) (by omega)) ?_
      (conv => whnf); (repeat (first | (refine arith_i ⟨by omega, by omega⟩ ?_; conv => whnf) | (refine need_i (by first | omega | (simp only [List.length_cons, List.length_nil]; omega)) ?_; conv => whnf) | ((with_reducible refine branch_tt ?_); conv => whnf) | ((with_reducible refine branch_ff ?_); conv => whnf) | (with_reducible refine branch_not ?_)))
      cases hc : completeB st (subTo t P.costs.length) with
      | true =>
        have hcc : Compl st t := com_sub.1 (by rw [hlen]; exact hc)
        have next : t + 1 ≤ N ∧ N - (t + 1) < N - t := by omega
        (conv => whnf); (repeat (first | (refine arith_i ⟨by omega, by omega⟩ ?_; conv => whnf) | (refine need_i (by first | omega | (simp only [List.length_cons, List.length_nil]; omega)) ?_; conv => whnf) | ((with_reducible refine branch_tt ?_); conv => whnf) | ((with_reducible refine branch_ff ?_); conv => whnf) | (with_reducible refine branch_not ?_)))
        refine branch_d (fun hd => ?_) (fun hd => ?_)
        · (conv => whnf); (repeat (first | (refine arith_i ⟨by omega, by omega⟩ ?_; conv => whnf) | (refine need_i (by first | omega | (simp only [List.length_cons, List.length_nil]; omega)) ?_; conv => whnf) | ((with_reducible refine branch_tt ?_); conv => whnf) | ((with_reducible refine branch_ff ?_); conv => whnf) | (with_reducible refine branch_not ?_)))
          refine call_e ((meets_ok P (subTo t P.costs.length) hfit (by omega)).mono fun r h => h.trans (bool_eq (dead_not hlen htri hcc hd))) ?_
          (conv => whnf); (repeat (first | (refine arith_i ⟨by omega, by omega⟩ ?_; conv => whnf) | (refine need_i (by first | omega | (simp only [List.length_cons, List.length_nil]; omega)) ?_; conv => whnf) | ((with_reducible refine branch_tt ?_); conv => whnf) | ((with_reducible refine branch_ff ?_); conv => whnf) | (with_reducible refine branch_not ?_)))
          cases hf : hasB st (-1) with
          | true =>
            (conv => whnf); (repeat (first | (refine arith_i ⟨by omega, by omega⟩ ?_; conv => whnf) | (refine need_i (by first | omega | (simp only [List.length_cons, List.length_nil]; omega)) ?_; conv => whnf) | ((with_reducible refine branch_tt ?_); conv => whnf) | ((with_reducible refine branch_ff ?_); conv => whnf) | (with_reducible refine branch_not ?_)))
            exact ⟨t + 1, next.1, le_mk ⟨rfl, rfl, rfl, rfl, rfl, rfl, trivial⟩ ⟨rfl, trivial⟩ rfl, next.2⟩
          | false =>
            (conv => whnf); (repeat (first | (refine arith_i ⟨by omega, by omega⟩ ?_; conv => whnf) | (refine need_i (by first | omega | (simp only [List.length_cons, List.length_nil]; omega)) ?_; conv => whnf) | ((with_reducible refine branch_tt ?_); conv => whnf) | ((with_reducible refine branch_ff ?_); conv => whnf) | (with_reducible refine branch_not ?_)))
            refine call_e ((meets_ok P (subTo t P.costs.length) hfit (by omega)).mono fun r h => h.trans (bool_eq (dead_not hlen htri hcc hd))) ?_
            (conv => whnf); (repeat (first | (refine arith_i ⟨by omega, by omega⟩ ?_; conv => whnf) | (refine need_i (by first | omega | (simp only [List.length_cons, List.length_nil]; omega)) ?_; conv => whnf) | ((with_reducible refine branch_tt ?_); conv => whnf) | ((with_reducible refine branch_ff ?_); conv => whnf) | (with_reducible refine branch_not ?_)))
            refine branch_t (by have e : decide (deadF P st < 0) = false := by simp; omega
                                rw [e]; rfl) ?_
            (conv => whnf); (repeat (first | (refine arith_i ⟨by omega, by omega⟩ ?_; conv => whnf) | (refine need_i (by first | omega | (simp only [List.length_cons, List.length_nil]; omega)) ?_; conv => whnf) | ((with_reducible refine branch_tt ?_); conv => whnf) | ((with_reducible refine branch_ff ?_); conv => whnf) | (with_reducible refine branch_not ?_)))
            exact ⟨t + 1, next.1, le_mk ⟨rfl, rfl, rfl, rfl, rfl, rfl, trivial⟩ ⟨rfl, trivial⟩ rfl, next.2⟩
        · (conv => whnf); (repeat (first | (refine arith_i ⟨by omega, by omega⟩ ?_; conv => whnf) | (refine need_i (by first | omega | (simp only [List.length_cons, List.length_nil]; omega)) ?_; conv => whnf) | ((with_reducible refine branch_tt ?_); conv => whnf) | ((with_reducible refine branch_ff ?_); conv => whnf) | (with_reducible refine branch_not ?_)))
          cases hf : hasB st (-1) with
          | true =>
            (conv => whnf); (repeat (first | (refine arith_i ⟨by omega, by omega⟩ ?_; conv => whnf) | (refine need_i (by first | omega | (simp only [List.length_cons, List.length_nil]; omega)) ?_; conv => whnf) | ((with_reducible refine branch_tt ?_); conv => whnf) | ((with_reducible refine branch_ff ?_); conv => whnf) | (with_reducible refine branch_not ?_)))
            exact ⟨t + 1, next.1, le_mk ⟨rfl, rfl, rfl, rfl, rfl, rfl, trivial⟩ ⟨rfl, trivial⟩ rfl, next.2⟩
          | false =>
            (conv => whnf); (repeat (first | (refine arith_i ⟨by omega, by omega⟩ ?_; conv => whnf) | (refine need_i (by first | omega | (simp only [List.length_cons, List.length_nil]; omega)) ?_; conv => whnf) | ((with_reducible refine branch_tt ?_); conv => whnf) | ((with_reducible refine branch_ff ?_); conv => whnf) | (with_reducible refine branch_not ?_)))
            refine call_e ((meets_ok P (subTo t P.costs.length) hfit (by omega)).mono fun r h => h.trans (bool_eq ((decided_iff hlen htri hv his hf hcc).1 (by omega)))) ?_
            (conv => whnf); (repeat (first | (refine arith_i ⟨by omega, by omega⟩ ?_; conv => whnf) | (refine need_i (by first | omega | (simp only [List.length_cons, List.length_nil]; omega)) ?_; conv => whnf) | ((with_reducible refine branch_tt ?_); conv => whnf) | ((with_reducible refine branch_ff ?_); conv => whnf) | (with_reducible refine branch_not ?_)))
            refine branch_t (by have e : decide (deadF P st < 0) = true := by simp; omega
                                rw [e]; rfl) ?_
            (conv => whnf); (repeat (first | (refine arith_i ⟨by omega, by omega⟩ ?_; conv => whnf) | (refine need_i (by first | omega | (simp only [List.length_cons, List.length_nil]; omega)) ?_; conv => whnf) | ((with_reducible refine branch_tt ?_); conv => whnf) | ((with_reducible refine branch_ff ?_); conv => whnf) | (with_reducible refine branch_not ?_)))
            exact ⟨t + 1, next.1, le_mk ⟨rfl, rfl, rfl, rfl, rfl, rfl, trivial⟩ ⟨rfl, trivial⟩ rfl, next.2⟩
      | false =>
        (conv => whnf); (repeat (first | (refine arith_i ⟨by omega, by omega⟩ ?_; conv => whnf) | (refine need_i (by first | omega | (simp only [List.length_cons, List.length_nil]; omega)) ?_; conv => whnf) | ((with_reducible refine branch_tt ?_); conv => whnf) | ((with_reducible refine branch_ff ?_); conv => whnf) | (with_reducible refine branch_not ?_)))
        exact ⟨t + 1, by omega, le_mk ⟨rfl, rfl, rfl, rfl, rfl, rfl, trivial⟩ ⟨rfl, trivial⟩ rfl, by omega⟩
    · (conv => whnf); (repeat (first | (refine arith_i ⟨by omega, by omega⟩ ?_; conv => whnf) | (refine need_i (by first | omega | (simp only [List.length_cons, List.length_nil]; omega)) ?_; conv => whnf) | ((with_reducible refine branch_tt ?_); conv => whnf) | ((with_reducible refine branch_ff ?_); conv => whnf) | (with_reducible refine branch_not ?_)))
      refine call_e awake_ok ?_
      (conv => whnf); (repeat (first | (refine arith_i ⟨by omega, by omega⟩ ?_; conv => whnf) | (refine need_i (by first | omega | (simp only [List.length_cons, List.length_nil]; omega)) ?_; conv => whnf) | ((with_reducible refine branch_tt ?_); conv => whnf) | ((with_reducible refine branch_ff ?_); conv => whnf) | (with_reducible refine branch_not ?_)))
      exact ret_p rfl rfl
end Go.Proofs.Ytipelkbdonfkoaa
