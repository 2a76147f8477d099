/- Layer 8 by the interpreter: the generator of blueprints. -/
import Derived.Test.YtipelkbdonfkoaaGL08h
namespace Go.Proofs.Ytipelkbdonfkoaa
set_option linter.unusedVariables false
set_option linter.unusedSimpArgs false
set_option linter.unnecessarySimpa false
set_option linter.unusedSectionVars false
set_option maxRecDepth 10000
open Go.RowKit

def bluO (a b c d e : Int) (ts os : List Rng) (rs : List Int) (ps : List Frm) : List AV := [.int .i64 a, .int .i64 b, .int .i64 c, .int .i64 d, .own 20 79 3 (ts.map encRng), .own 21 79 3 (os.map encRng), .own 22 3 1 (rs.map encI), .own 23 82 2 (ps.map encFrm), .int .i64 e]
def blu0 : List AV := [.int .i64 0, .int .i64 0, .int .i64 0, .int .i64 0, .nil, .nil, .nil, .nil, .int .i64 0]
theorem blu_ret (a b c d e : Int) (ts os : List Rng) (rs : List Int) (ps : List Frm) (h1 : ts.length ≤ 9) (h2 : os.length ≤ 9) (h3 : rs.length ≤ 9) (h4 : ps.length ≤ 9) : aret (.agg (bluO a b c d e ts os rs ps)) (fun r => ∃ b, r = bluV b ∧ Short b) :=
  ret_a (cs' := bluC ⟨a, b, c, d, ts, os, rs, ps, e⟩) ⟨rc_p rfl, rc_p rfl, rc_p rfl, rc_p rfl, rc_o, rc_o, rc_o, rc_o, rc_p rfl, trivial⟩ ⟨_, rfl, by show ts.length ≤ 1000; omega, by show os.length ≤ 1000; omega, by show rs.length ≤ 1000; omega, by show ps.length ≤ 1000; omega⟩
theorem blu_fin {cs : List AV} (a b c d e : Int) (ts os : List Rng) (rs : List Int) (ps : List Frm) (hcs : cs = bluO a b c d e ts os rs ps) (h1 : ts.length ≤ 9) (h2 : os.length ≤ 9) (h3 : rs.length ≤ 9) (h4 : ps.length ≤ 9) : aret (.agg cs) (fun r => ∃ b, r = bluV b ∧ Short b) := by
  subst hcs; exact blu_ret a b c d e ts os rs ps h1 h2 h3 h4
theorem pres_int {k : IntKind} {n : Int} {cs : List AV} {K : List AV → Prop} (h : presK cs fun cs' => K (.int k n :: cs')) : presK (.int k n :: cs) K := h
theorem pres_nil {cs : List AV} {K : List AV → Prop} (h : nilAs fun z => presK cs fun cs' => K (.lst z [] :: cs')) : presK (.nil :: cs) K := h
theorem pres_end {K : List AV → Prop} (h : K []) : presK [] K := h
set_option maxHeartbeats 1000000 in
theorem blueprint_ok (n : Int) (hn : 0 ≤ n ∧ n ≤ 1000) : Good Try.prog TT true 35 [.tape, .int .i64 n] (fun r => ∃ b, r = bluV b ∧ Short b) := by
  refine good_of mixed tabOk Try.func35 rfl rfl Try.ntmps35 Try.results35 rfl rfl ?_
  (conv => whnf); (repeat (first | (refine arith_i ⟨by omega, by omega⟩ ?_; conv => whnf) | (refine need_i (by first | omega | (simp only [List.length_cons, List.length_nil]; omega)) ?_; conv => whnf) | ((with_reducible refine branch_tt ?_); conv => whnf) | ((with_reducible refine branch_ff ?_); conv => whnf) | (with_reducible refine branch_not ?_)))
  refine call_i (next_ok 3 (by omega)) fun r hr => ?_
  obtain ⟨a, rfl, -, ha⟩ := hr
  replace ha := ha (by omega)
  (conv => whnf); (repeat (first | (refine arith_i ⟨by omega, by omega⟩ ?_; conv => whnf) | (refine need_i (by first | omega | (simp only [List.length_cons, List.length_nil]; omega)) ?_; conv => whnf) | ((with_reducible refine branch_tt ?_); conv => whnf) | ((with_reducible refine branch_ff ?_); conv => whnf) | (with_reducible refine branch_not ?_)))
  refine call_i (range_ok 0 4 (by omega) (by omega)) fun r hr => ?_
  obtain ⟨b', rfl, -, hb⟩ := hr
  replace hb := hb (by omega)
  (conv => whnf); (repeat (first | (refine arith_i ⟨by omega, by omega⟩ ?_; conv => whnf) | (refine need_i (by first | omega | (simp only [List.length_cons, List.length_nil]; omega)) ?_; conv => whnf) | ((with_reducible refine branch_tt ?_); conv => whnf) | ((with_reducible refine branch_ff ?_); conv => whnf) | (with_reducible refine branch_not ?_)))
  refine call_i (next_ok 12 (by omega)) fun r hr => ?_
  obtain ⟨c, rfl, -, hc⟩ := hr
  (conv => whnf); (repeat (first | (refine arith_i ⟨by omega, by omega⟩ ?_; conv => whnf) | (refine need_i (by first | omega | (simp only [List.length_cons, List.length_nil]; omega)) ?_; conv => whnf) | ((with_reducible refine branch_tt ?_); conv => whnf) | ((with_reducible refine branch_ff ?_); conv => whnf) | (with_reducible refine branch_not ?_)))
  refine call_i (range_ok 10 60 (by omega) (by omega)) fun r hr => ?_
  obtain ⟨d, rfl, -, hd⟩ := hr
  (conv => whnf); (repeat (first | (refine arith_i ⟨by omega, by omega⟩ ?_; conv => whnf) | (refine need_i (by first | omega | (simp only [List.length_cons, List.length_nil]; omega)) ?_; conv => whnf) | ((with_reducible refine branch_tt ?_); conv => whnf) | ((with_reducible refine branch_ff ?_); conv => whnf) | (with_reducible refine branch_not ?_)))
  refine call_i (next_ok 3 (by omega)) fun r hr => ?_
  obtain ⟨e, rfl, -, he⟩ := hr
  (conv => whnf); (repeat (first | (refine arith_i ⟨by omega, by omega⟩ ?_; conv => whnf) | (refine need_i (by first | omega | (simp only [List.length_cons, List.length_nil]; omega)) ?_; conv => whnf) | ((with_reducible refine branch_tt ?_); conv => whnf) | ((with_reducible refine branch_ff ?_); conv => whnf) | (with_reducible refine branch_not ?_)))
  refine loop_i (fun p : Nat × List Rng => p.1 ≤ 4 ∧ p.2.length ≤ p.1) (fun p => mkSt [(0, .tape), (1, .int .i64 n), (4, .ptr 4 0), (6, .ptr 6 0), (7, .int .i64 p.1)] [(4, blu0), (6, bluO a (a + b') c d e p.2 [] [] [])] true) (fun p => 4 - p.1) (0, []) ⟨by decide, by decide⟩ (Le.trans (le_adoptBox 6 4 20 79 3 rfl rfl) (Le.trans (le_adoptBox 6 5 21 79 3 rfl rfl) (Le.trans (le_adoptBox 6 6 22 3 1 rfl rfl) (Le.trans (le_adoptBox 6 7 23 82 2 rfl rfl) (le_mk ⟨rfl, rfl, rfl, rfl, rfl, trivial⟩ ⟨rfl, rfl, trivial⟩ rfl))))) ?_
  rintro ⟨i, ts⟩ ⟨hi, ht⟩
  replace hi : i ≤ 4 := hi
  replace ht : ts.length ≤ i := ht
  have L1 : (ts.map encRng).length = ts.length := List.length_map ..
  (conv => whnf); (repeat (first | (refine arith_i ⟨by omega, by omega⟩ ?_; conv => whnf) | (refine need_i (by first | omega | (simp only [List.length_cons, List.length_nil]; omega)) ?_; conv => whnf) | ((with_reducible refine branch_tt ?_); conv => whnf) | ((with_reducible refine branch_ff ?_); conv => whnf) | (with_reducible refine branch_not ?_)))
  refine branch_d (fun h => ?_) (fun h => ?_)
  · replace h : (i : Int) < 4 := h
    (conv => whnf); (repeat (first | (refine arith_i ⟨by omega, by omega⟩ ?_; conv => whnf) | (refine need_i (by first | omega | (simp only [List.length_cons, List.length_nil]; omega)) ?_; conv => whnf) | ((with_reducible refine branch_tt ?_); conv => whnf) | ((with_reducible refine branch_ff ?_); conv => whnf) | (with_reducible refine branch_not ?_)))
    refine call_i (one_ok 3 (by omega)) fun r hr => ?_
    obtain ⟨bb, rfl⟩ := hr
    (conv => whnf); (repeat (first | (refine arith_i ⟨by omega, by omega⟩ ?_; conv => whnf) | (refine need_i (by first | omega | (simp only [List.length_cons, List.length_nil]; omega)) ?_; conv => whnf) | ((with_reducible refine branch_tt ?_); conv => whnf) | ((with_reducible refine branch_ff ?_); conv => whnf) | (with_reducible refine branch_not ?_)))
    cases bb with
    | true =>
      (conv => whnf); (repeat (first | (refine arith_i ⟨by omega, by omega⟩ ?_; conv => whnf) | (refine need_i (by first | omega | (simp only [List.length_cons, List.length_nil]; omega)) ?_; conv => whnf) | ((with_reducible refine branch_tt ?_); conv => whnf) | ((with_reducible refine branch_ff ?_); conv => whnf) | (with_reducible refine branch_not ?_)))
      refine draw_i 11 (.take 0 (.take 1 (.take 2 (.take 3 (.take 5 (.alt 4 (.alt 6 (.take 7 (.alt 8 (.alt 9 (.take 10 (.alt 11 .done .stop)) .stop) .stop)) .stop) .stop)))))) (by decide +kernel) ?_
      (conv => whnf); (repeat (first | (refine arith_i ⟨by omega, by omega⟩ ?_; conv => whnf) | (refine need_i (by first | omega | (simp only [List.length_cons, List.length_nil]; omega)) ?_; conv => whnf) | ((with_reducible refine branch_tt ?_); conv => whnf) | ((with_reducible refine branch_ff ?_); conv => whnf) | (with_reducible refine branch_not ?_)))
      refine ⟨?_, trivial⟩
      (conv => whnf); (repeat (first | (refine arith_i ⟨by omega, by omega⟩ ?_; conv => whnf) | (refine need_i (by first | omega | (simp only [List.length_cons, List.length_nil]; omega)) ?_; conv => whnf) | ((with_reducible refine branch_tt ?_); conv => whnf) | ((with_reducible refine branch_ff ?_); conv => whnf) | (with_reducible refine branch_not ?_)))
      refine call_i (next_ok 4 (by omega)) fun r hr => ?_
      obtain ⟨lo, rfl, -, hlo⟩ := hr
      (conv => whnf); (repeat (first | (refine arith_i ⟨by omega, by omega⟩ ?_; conv => whnf) | (refine need_i (by first | omega | (simp only [List.length_cons, List.length_nil]; omega)) ?_; conv => whnf) | ((with_reducible refine branch_tt ?_); conv => whnf) | ((with_reducible refine branch_ff ?_); conv => whnf) | (with_reducible refine branch_not ?_)))
      refine ⟨?_, trivial⟩
      (conv => whnf); (repeat (first | (refine arith_i ⟨by omega, by omega⟩ ?_; conv => whnf) | (refine need_i (by first | omega | (simp only [List.length_cons, List.length_nil]; omega)) ?_; conv => whnf) | ((with_reducible refine branch_tt ?_); conv => whnf) | ((with_reducible refine branch_ff ?_); conv => whnf) | (with_reducible refine branch_not ?_)))
      refine call_i (range_ok 4 30 (by omega) (by omega)) fun r hr => ?_
      obtain ⟨up, rfl, -, hup⟩ := hr
      (conv => whnf); (repeat (first | (refine arith_i ⟨by omega, by omega⟩ ?_; conv => whnf) | (refine need_i (by first | omega | (simp only [List.length_cons, List.length_nil]; omega)) ?_; conv => whnf) | ((with_reducible refine branch_tt ?_); conv => whnf) | ((with_reducible refine branch_ff ?_); conv => whnf) | (with_reducible refine branch_not ?_)))
      refine ⟨?_, trivial⟩
      (conv => whnf); (repeat (first | (refine arith_i ⟨by omega, by omega⟩ ?_; conv => whnf) | (refine need_i (by first | omega | (simp only [List.length_cons, List.length_nil]; omega)) ?_; conv => whnf) | ((with_reducible refine branch_tt ?_); conv => whnf) | ((with_reducible refine branch_ff ?_); conv => whnf) | (with_reducible refine branch_not ?_)))
      refine ⟨?_, trivial⟩
      (conv => whnf); (repeat (first | (refine arith_i ⟨by omega, by omega⟩ ?_; conv => whnf) | (refine need_i (by first | omega | (simp only [List.length_cons, List.length_nil]; omega)) ?_; conv => whnf) | ((with_reducible refine branch_tt ?_); conv => whnf) | ((with_reducible refine branch_ff ?_); conv => whnf) | (with_reducible refine branch_not ?_)))
      refine ⟨?_, trivial⟩
      (conv => whnf); (repeat (first | (refine arith_i ⟨by omega, by omega⟩ ?_; conv => whnf) | (refine need_i (by first | omega | (simp only [List.length_cons, List.length_nil]; omega)) ?_; conv => whnf) | ((with_reducible refine branch_tt ?_); conv => whnf) | ((with_reducible refine branch_ff ?_); conv => whnf) | (with_reducible refine branch_not ?_)))
      refine ⟨(i + 1, ts ++ [⟨i, lo, up⟩]), ⟨by show i + 1 ≤ 4; omega, by show (ts ++ _).length ≤ i + 1; simp; omega⟩, le_mk ⟨rfl, rfl, rfl, rfl, rfl, trivial⟩ ⟨rfl, ?_, trivial⟩ rfl, by show 4 - (i + 1) < 4 - i; omega⟩
      conv => lhs; whnf
      conv => lhs; arg 1; simp only [setRange, List.map, St.map, killF, bluO]
      simp [bluO, encRng]
      rfl
    | false =>
      (conv => whnf); (repeat (first | (refine arith_i ⟨by omega, by omega⟩ ?_; conv => whnf) | (refine need_i (by first | omega | (simp only [List.length_cons, List.length_nil]; omega)) ?_; conv => whnf) | ((with_reducible refine branch_tt ?_); conv => whnf) | ((with_reducible refine branch_ff ?_); conv => whnf) | (with_reducible refine branch_not ?_)))
      exact ⟨(i + 1, ts), ⟨by show i + 1 ≤ 4; omega, by show ts.length ≤ i + 1; omega⟩, le_mk ⟨rfl, rfl, rfl, rfl, rfl, trivial⟩ ⟨rfl, rfl, trivial⟩ rfl, by show 4 - (i + 1) < 4 - i; omega⟩
  · replace ht : ts.length ≤ 4 := by omega
    clear h hi
    (conv => whnf); (repeat (first | (refine arith_i ⟨by omega, by omega⟩ ?_; conv => whnf) | (refine need_i (by first | omega | (simp only [List.length_cons, List.length_nil]; omega)) ?_; conv => whnf) | ((with_reducible refine branch_tt ?_); conv => whnf) | ((with_reducible refine branch_ff ?_); conv => whnf) | (with_reducible refine branch_not ?_)))
    refine loop_i (fun p : Nat × List Rng => p.1 ≤ 3 ∧ p.2.length ≤ p.1) (fun p => mkSt [(0, .tape), (1, .int .i64 n), (4, .ptr 4 0), (6, .ptr 6 0), (8, .int .i64 p.1)] [(4, blu0), (6, bluO a (a + b') c d e ts p.2 [] [])] true) (fun p => 3 - p.1) (0, []) ⟨by decide, by decide⟩ (le_mk ⟨rfl, rfl, rfl, rfl, rfl, trivial⟩ ⟨rfl, rfl, trivial⟩ rfl) ?_
    rintro ⟨j, os⟩ ⟨hj, ho⟩
    replace hj : j ≤ 3 := hj
    replace ho : os.length ≤ j := ho
    have L2 : (os.map encRng).length = os.length := List.length_map ..
    (conv => whnf); (repeat (first | (refine arith_i ⟨by omega, by omega⟩ ?_; conv => whnf) | (refine need_i (by first | omega | (simp only [List.length_cons, List.length_nil]; omega)) ?_; conv => whnf) | ((with_reducible refine branch_tt ?_); conv => whnf) | ((with_reducible refine branch_ff ?_); conv => whnf) | (with_reducible refine branch_not ?_)))
    refine branch_d (fun h => ?_) (fun h => ?_)
    · replace h : (j : Int) < 3 := h
      (conv => whnf); (repeat (first | (refine arith_i ⟨by omega, by omega⟩ ?_; conv => whnf) | (refine need_i (by first | omega | (simp only [List.length_cons, List.length_nil]; omega)) ?_; conv => whnf) | ((with_reducible refine branch_tt ?_); conv => whnf) | ((with_reducible refine branch_ff ?_); conv => whnf) | (with_reducible refine branch_not ?_)))
      refine call_i (one_ok 4 (by omega)) fun r hr => ?_
      obtain ⟨bb, rfl⟩ := hr
      (conv => whnf); (repeat (first | (refine arith_i ⟨by omega, by omega⟩ ?_; conv => whnf) | (refine need_i (by first | omega | (simp only [List.length_cons, List.length_nil]; omega)) ?_; conv => whnf) | ((with_reducible refine branch_tt ?_); conv => whnf) | ((with_reducible refine branch_ff ?_); conv => whnf) | (with_reducible refine branch_not ?_)))
      cases bb with
      | true =>
        (conv => whnf); (repeat (first | (refine arith_i ⟨by omega, by omega⟩ ?_; conv => whnf) | (refine need_i (by first | omega | (simp only [List.length_cons, List.length_nil]; omega)) ?_; conv => whnf) | ((with_reducible refine branch_tt ?_); conv => whnf) | ((with_reducible refine branch_ff ?_); conv => whnf) | (with_reducible refine branch_not ?_)))
        refine draw_i 11 (.take 0 (.take 1 (.take 2 (.take 3 (.take 5 (.alt 4 (.alt 6 (.take 7 (.alt 8 (.alt 9 (.take 10 (.alt 11 .done .stop)) .stop) .stop)) .stop) .stop)))))) (by decide +kernel) ?_
        (conv => whnf); (repeat (first | (refine arith_i ⟨by omega, by omega⟩ ?_; conv => whnf) | (refine need_i (by first | omega | (simp only [List.length_cons, List.length_nil]; omega)) ?_; conv => whnf) | ((with_reducible refine branch_tt ?_); conv => whnf) | ((with_reducible refine branch_ff ?_); conv => whnf) | (with_reducible refine branch_not ?_)))
        refine ⟨?_, trivial⟩
        (conv => whnf); (repeat (first | (refine arith_i ⟨by omega, by omega⟩ ?_; conv => whnf) | (refine need_i (by first | omega | (simp only [List.length_cons, List.length_nil]; omega)) ?_; conv => whnf) | ((with_reducible refine branch_tt ?_); conv => whnf) | ((with_reducible refine branch_ff ?_); conv => whnf) | (with_reducible refine branch_not ?_)))
        refine call_i (next_ok 4 (by omega)) fun r hr => ?_
        obtain ⟨lo, rfl, -, hlo⟩ := hr
        (conv => whnf); (repeat (first | (refine arith_i ⟨by omega, by omega⟩ ?_; conv => whnf) | (refine need_i (by first | omega | (simp only [List.length_cons, List.length_nil]; omega)) ?_; conv => whnf) | ((with_reducible refine branch_tt ?_); conv => whnf) | ((with_reducible refine branch_ff ?_); conv => whnf) | (with_reducible refine branch_not ?_)))
        refine ⟨?_, trivial⟩
        (conv => whnf); (repeat (first | (refine arith_i ⟨by omega, by omega⟩ ?_; conv => whnf) | (refine need_i (by first | omega | (simp only [List.length_cons, List.length_nil]; omega)) ?_; conv => whnf) | ((with_reducible refine branch_tt ?_); conv => whnf) | ((with_reducible refine branch_ff ?_); conv => whnf) | (with_reducible refine branch_not ?_)))
        refine call_i (range_ok 4 30 (by omega) (by omega)) fun r hr => ?_
        obtain ⟨up, rfl, -, hup⟩ := hr
        (conv => whnf); (repeat (first | (refine arith_i ⟨by omega, by omega⟩ ?_; conv => whnf) | (refine need_i (by first | omega | (simp only [List.length_cons, List.length_nil]; omega)) ?_; conv => whnf) | ((with_reducible refine branch_tt ?_); conv => whnf) | ((with_reducible refine branch_ff ?_); conv => whnf) | (with_reducible refine branch_not ?_)))
        refine ⟨?_, trivial⟩
        (conv => whnf); (repeat (first | (refine arith_i ⟨by omega, by omega⟩ ?_; conv => whnf) | (refine need_i (by first | omega | (simp only [List.length_cons, List.length_nil]; omega)) ?_; conv => whnf) | ((with_reducible refine branch_tt ?_); conv => whnf) | ((with_reducible refine branch_ff ?_); conv => whnf) | (with_reducible refine branch_not ?_)))
        refine ⟨?_, trivial⟩
        (conv => whnf); (repeat (first | (refine arith_i ⟨by omega, by omega⟩ ?_; conv => whnf) | (refine need_i (by first | omega | (simp only [List.length_cons, List.length_nil]; omega)) ?_; conv => whnf) | ((with_reducible refine branch_tt ?_); conv => whnf) | ((with_reducible refine branch_ff ?_); conv => whnf) | (with_reducible refine branch_not ?_)))
        refine ⟨?_, trivial⟩
        (conv => whnf); (repeat (first | (refine arith_i ⟨by omega, by omega⟩ ?_; conv => whnf) | (refine need_i (by first | omega | (simp only [List.length_cons, List.length_nil]; omega)) ?_; conv => whnf) | ((with_reducible refine branch_tt ?_); conv => whnf) | ((with_reducible refine branch_ff ?_); conv => whnf) | (with_reducible refine branch_not ?_)))
        refine ⟨(j + 1, os ++ [⟨j, lo, up⟩]), ⟨by show j + 1 ≤ 3; omega, by show (os ++ _).length ≤ j + 1; simp; omega⟩, le_mk ⟨rfl, rfl, rfl, rfl, rfl, trivial⟩ ⟨rfl, ?_, trivial⟩ rfl, by show 3 - (j + 1) < 3 - j; omega⟩
        conv => lhs; whnf
        conv => lhs; arg 1; simp only [setRange, List.map, St.map, killF, bluO]
        simp [bluO, encRng]
        rfl
      | false =>
        (conv => whnf); (repeat (first | (refine arith_i ⟨by omega, by omega⟩ ?_; conv => whnf) | (refine need_i (by first | omega | (simp only [List.length_cons, List.length_nil]; omega)) ?_; conv => whnf) | ((with_reducible refine branch_tt ?_); conv => whnf) | ((with_reducible refine branch_ff ?_); conv => whnf) | (with_reducible refine branch_not ?_)))
        exact ⟨(j + 1, os), ⟨by show j + 1 ≤ 3; omega, by show os.length ≤ j + 1; omega⟩, le_mk ⟨rfl, rfl, rfl, rfl, rfl, trivial⟩ ⟨rfl, rfl, trivial⟩ rfl, by show 3 - (j + 1) < 3 - j; omega⟩
    · replace ho : os.length ≤ 3 := by omega
      clear h hj
      (conv => whnf); (repeat (first | (refine arith_i ⟨by omega, by omega⟩ ?_; conv => whnf) | (refine need_i (by first | omega | (simp only [List.length_cons, List.length_nil]; omega)) ?_; conv => whnf) | ((with_reducible refine branch_tt ?_); conv => whnf) | ((with_reducible refine branch_ff ?_); conv => whnf) | (with_reducible refine branch_not ?_)))
      refine loop_i (fun p : Nat × List Int => p.1 ≤ 3 ∧ p.2.length ≤ p.1) (fun p => mkSt [(0, .tape), (1, .int .i64 n), (4, .ptr 4 0), (6, .ptr 6 0), (9, .int .i64 p.1)] [(4, blu0), (6, bluO a (a + b') c d e ts os p.2 [])] true) (fun p => 3 - p.1) (0, []) ⟨by decide, by decide⟩ (le_mk ⟨rfl, rfl, rfl, rfl, rfl, trivial⟩ ⟨rfl, rfl, trivial⟩ rfl) ?_
      rintro ⟨j, rs⟩ ⟨hj, hr0⟩
      replace hj : j ≤ 3 := hj
      replace hr0 : rs.length ≤ j := hr0
      have L3 : (rs.map encI).length = rs.length := List.length_map ..
      (conv => whnf); (repeat (first | (refine arith_i ⟨by omega, by omega⟩ ?_; conv => whnf) | (refine need_i (by first | omega | (simp only [List.length_cons, List.length_nil]; omega)) ?_; conv => whnf) | ((with_reducible refine branch_tt ?_); conv => whnf) | ((with_reducible refine branch_ff ?_); conv => whnf) | (with_reducible refine branch_not ?_)))
      refine branch_d (fun h => ?_) (fun h => ?_)
      · replace h : (j : Int) < 3 := h
        (conv => whnf); (repeat (first | (refine arith_i ⟨by omega, by omega⟩ ?_; conv => whnf) | (refine need_i (by first | omega | (simp only [List.length_cons, List.length_nil]; omega)) ?_; conv => whnf) | ((with_reducible refine branch_tt ?_); conv => whnf) | ((with_reducible refine branch_ff ?_); conv => whnf) | (with_reducible refine branch_not ?_)))
        refine call_i (one_ok 5 (by omega)) fun r hr => ?_
        obtain ⟨bb, rfl⟩ := hr
        (conv => whnf); (repeat (first | (refine arith_i ⟨by omega, by omega⟩ ?_; conv => whnf) | (refine need_i (by first | omega | (simp only [List.length_cons, List.length_nil]; omega)) ?_; conv => whnf) | ((with_reducible refine branch_tt ?_); conv => whnf) | ((with_reducible refine branch_ff ?_); conv => whnf) | (with_reducible refine branch_not ?_)))
        cases bb with
        | true =>
          (conv => whnf); (repeat (first | (refine arith_i ⟨by omega, by omega⟩ ?_; conv => whnf) | (refine need_i (by first | omega | (simp only [List.length_cons, List.length_nil]; omega)) ?_; conv => whnf) | ((with_reducible refine branch_tt ?_); conv => whnf) | ((with_reducible refine branch_ff ?_); conv => whnf) | (with_reducible refine branch_not ?_)))
          exact ⟨(j + 1, rs ++ [(j : Int)]), ⟨by show j + 1 ≤ 3; omega, by show (rs ++ _).length ≤ j + 1; simp; omega⟩, le_mk ⟨rfl, rfl, rfl, rfl, rfl, trivial⟩ ⟨rfl, box_snoc (enc := encI) [.int .i64 a, .int .i64 (a + b'), .int .i64 c, .int .i64 d, .own 20 79 3 (ts.map encRng), .own 21 79 3 (os.map encRng)] [.own 23 82 2 [], .int .i64 e] (j : Int), trivial⟩ rfl, by show 3 - (j + 1) < 3 - j; omega⟩
        | false =>
          (conv => whnf); (repeat (first | (refine arith_i ⟨by omega, by omega⟩ ?_; conv => whnf) | (refine need_i (by first | omega | (simp only [List.length_cons, List.length_nil]; omega)) ?_; conv => whnf) | ((with_reducible refine branch_tt ?_); conv => whnf) | ((with_reducible refine branch_ff ?_); conv => whnf) | (with_reducible refine branch_not ?_)))
          exact ⟨(j + 1, rs), ⟨by show j + 1 ≤ 3; omega, by show rs.length ≤ j + 1; omega⟩, le_mk ⟨rfl, rfl, rfl, rfl, rfl, trivial⟩ ⟨rfl, rfl, trivial⟩ rfl, by show 3 - (j + 1) < 3 - j; omega⟩
      · replace hr0 : rs.length ≤ 3 := by omega
        clear h hj
        (conv => whnf); (repeat (first | (refine arith_i ⟨by omega, by omega⟩ ?_; conv => whnf) | (refine need_i (by first | omega | (simp only [List.length_cons, List.length_nil]; omega)) ?_; conv => whnf) | ((with_reducible refine branch_tt ?_); conv => whnf) | ((with_reducible refine branch_ff ?_); conv => whnf) | (with_reducible refine branch_not ?_)))
        refine call_i (next_ok 3 (by omega)) fun r hr => ?_
        obtain ⟨m, rfl, -, hm⟩ := hr
        replace hm := hm (by omega)
        (conv => whnf); (repeat (first | (refine arith_i ⟨by omega, by omega⟩ ?_; conv => whnf) | (refine need_i (by first | omega | (simp only [List.length_cons, List.length_nil]; omega)) ?_; conv => whnf) | ((with_reducible refine branch_tt ?_); conv => whnf) | ((with_reducible refine branch_ff ?_); conv => whnf) | (with_reducible refine branch_not ?_)))
        refine loop_i (fun ps : List Frm => (ps.length : Int) ≤ m) (fun ps => mkSt [(0, .tape), (1, .int .i64 n), (4, .ptr 4 0), (6, .ptr 6 0), (10, .int .i64 (m - ps.length))] [(4, blu0), (6, bluO a (a + b') c d e ts os rs ps)] true) (fun ps => m.toNat - ps.length) [] (by simp; omega) (le_mk ⟨rfl, rfl, rfl, rfl, int_eq (by simp), trivial⟩ ⟨rfl, rfl, trivial⟩ rfl) ?_
        intro ps hp
        have L4 : (ps.map encFrm).length = ps.length := List.length_map ..
        (conv => whnf); (repeat (first | (refine arith_i ⟨by omega, by omega⟩ ?_; conv => whnf) | (refine need_i (by first | omega | (simp only [List.length_cons, List.length_nil]; omega)) ?_; conv => whnf) | ((with_reducible refine branch_tt ?_); conv => whnf) | ((with_reducible refine branch_ff ?_); conv => whnf) | (with_reducible refine branch_not ?_)))
        refine branch_d (fun h => ?_) (fun h => ?_)
        · (conv => whnf); (repeat (first | (refine arith_i ⟨by omega, by omega⟩ ?_; conv => whnf) | (refine need_i (by first | omega | (simp only [List.length_cons, List.length_nil]; omega)) ?_; conv => whnf) | ((with_reducible refine branch_tt ?_); conv => whnf) | ((with_reducible refine branch_ff ?_); conv => whnf) | (with_reducible refine branch_not ?_)))
          refine call_i (next_ok 4 (by omega)) fun r hr => ?_
          obtain ⟨q, rfl, -, hq⟩ := hr
          replace hq := hq (by omega)
          (conv => whnf); (repeat (first | (refine arith_i ⟨by omega, by omega⟩ ?_; conv => whnf) | (refine need_i (by first | omega | (simp only [List.length_cons, List.length_nil]; omega)) ?_; conv => whnf) | ((with_reducible refine branch_tt ?_); conv => whnf) | ((with_reducible refine branch_ff ?_); conv => whnf) | (with_reducible refine branch_not ?_)))
          refine loop_i (fun qs : List (Int × Int) => (qs.length : Int) ≤ q) (fun qs => mkSt [(0, .tape), (1, .int .i64 n), (4, .ptr 4 0), (6, .ptr 6 0), (10, .int .i64 (m - ps.length)), (11, .ptr 11 0), (12, .int .i64 (q - qs.length))] [(4, blu0), (6, bluO a (a + b') c d e ts os rs ps), (11, [.int .i64 0, .own 24 84 2 (qs.map encRef)])] true) (fun qs => q.toNat - qs.length) [] (by simp; omega) (Le.trans (le_adoptBox 11 1 24 84 2 rfl rfl) (le_mk ⟨rfl, rfl, rfl, rfl, rfl, rfl, int_eq (by simp), trivial⟩ ⟨rfl, rfl, rfl, trivial⟩ rfl)) ?_
          intro qs hqs
          have L5 : (qs.map encRef).length = qs.length := List.length_map ..
          (conv => whnf); (repeat (first | (refine arith_i ⟨by omega, by omega⟩ ?_; conv => whnf) | (refine need_i (by first | omega | (simp only [List.length_cons, List.length_nil]; omega)) ?_; conv => whnf) | ((with_reducible refine branch_tt ?_); conv => whnf) | ((with_reducible refine branch_ff ?_); conv => whnf) | (with_reducible refine branch_not ?_)))
          refine branch_d (fun h' => ?_) (fun h' => ?_)
          · (conv => whnf); (repeat (first | (refine arith_i ⟨by omega, by omega⟩ ?_; conv => whnf) | (refine need_i (by first | omega | (simp only [List.length_cons, List.length_nil]; omega)) ?_; conv => whnf) | ((with_reducible refine branch_tt ?_); conv => whnf) | ((with_reducible refine branch_ff ?_); conv => whnf) | (with_reducible refine branch_not ?_)))
            refine draw_i 10 (.take 0 (.take 1 (.take 2 (.take 4 (.alt 3 (.alt 5 (.take 6 (.alt 7 (.alt 8 (.take 9 (.alt 10 .done .stop)) .stop) .stop)) .stop) .stop))))) (by decide +kernel) ?_
            (conv => whnf); (repeat (first | (refine arith_i ⟨by omega, by omega⟩ ?_; conv => whnf) | (refine need_i (by first | omega | (simp only [List.length_cons, List.length_nil]; omega)) ?_; conv => whnf) | ((with_reducible refine branch_tt ?_); conv => whnf) | ((with_reducible refine branch_ff ?_); conv => whnf) | (with_reducible refine branch_not ?_)))
            refine ⟨?_, trivial⟩
            (conv => whnf); (repeat (first | (refine arith_i ⟨by omega, by omega⟩ ?_; conv => whnf) | (refine need_i (by first | omega | (simp only [List.length_cons, List.length_nil]; omega)) ?_; conv => whnf) | ((with_reducible refine branch_tt ?_); conv => whnf) | ((with_reducible refine branch_ff ?_); conv => whnf) | (with_reducible refine branch_not ?_)))
            refine call_i (next_ok 4 (by omega)) fun r hr => ?_
            obtain ⟨x, rfl, -, hx⟩ := hr
            (conv => whnf); (repeat (first | (refine arith_i ⟨by omega, by omega⟩ ?_; conv => whnf) | (refine need_i (by first | omega | (simp only [List.length_cons, List.length_nil]; omega)) ?_; conv => whnf) | ((with_reducible refine branch_tt ?_); conv => whnf) | ((with_reducible refine branch_ff ?_); conv => whnf) | (with_reducible refine branch_not ?_)))
            refine ⟨?_, trivial⟩
            (conv => whnf); (repeat (first | (refine arith_i ⟨by omega, by omega⟩ ?_; conv => whnf) | (refine need_i (by first | omega | (simp only [List.length_cons, List.length_nil]; omega)) ?_; conv => whnf) | ((with_reducible refine branch_tt ?_); conv => whnf) | ((with_reducible refine branch_ff ?_); conv => whnf) | (with_reducible refine branch_not ?_)))
            refine call_i (range_ok 1 2 (by omega) (by omega)) fun r hr => ?_
            obtain ⟨y, rfl, -, hy⟩ := hr
            (conv => whnf); (repeat (first | (refine arith_i ⟨by omega, by omega⟩ ?_; conv => whnf) | (refine need_i (by first | omega | (simp only [List.length_cons, List.length_nil]; omega)) ?_; conv => whnf) | ((with_reducible refine branch_tt ?_); conv => whnf) | ((with_reducible refine branch_ff ?_); conv => whnf) | (with_reducible refine branch_not ?_)))
            refine ⟨?_, trivial⟩
            (conv => whnf); (repeat (first | (refine arith_i ⟨by omega, by omega⟩ ?_; conv => whnf) | (refine need_i (by first | omega | (simp only [List.length_cons, List.length_nil]; omega)) ?_; conv => whnf) | ((with_reducible refine branch_tt ?_); conv => whnf) | ((with_reducible refine branch_ff ?_); conv => whnf) | (with_reducible refine branch_not ?_)))
            refine ⟨?_, trivial⟩
            (conv => whnf); (repeat (first | (refine arith_i ⟨by omega, by omega⟩ ?_; conv => whnf) | (refine need_i (by first | omega | (simp only [List.length_cons, List.length_nil]; omega)) ?_; conv => whnf) | ((with_reducible refine branch_tt ?_); conv => whnf) | ((with_reducible refine branch_ff ?_); conv => whnf) | (with_reducible refine branch_not ?_)))
            refine ⟨?_, trivial⟩
            (conv => whnf); (repeat (first | (refine arith_i ⟨by omega, by omega⟩ ?_; conv => whnf) | (refine need_i (by first | omega | (simp only [List.length_cons, List.length_nil]; omega)) ?_; conv => whnf) | ((with_reducible refine branch_tt ?_); conv => whnf) | ((with_reducible refine branch_ff ?_); conv => whnf) | (with_reducible refine branch_not ?_)))
            exact ⟨qs ++ [(x, y)], by simp; omega, le_mk ⟨rfl, rfl, rfl, rfl, rfl, rfl, int_eq (by simp; omega), trivial⟩ ⟨rfl, rfl, box_snoc (enc := encRef) (xs := qs) (t := 24) (e := 84) (z := 2) [.int .i64 0] [] (x, y), trivial⟩ rfl, by simp; omega⟩
          · (conv => whnf); (repeat (first | (refine arith_i ⟨by omega, by omega⟩ ?_; conv => whnf) | (refine need_i (by first | omega | (simp only [List.length_cons, List.length_nil]; omega)) ?_; conv => whnf) | ((with_reducible refine branch_tt ?_); conv => whnf) | ((with_reducible refine branch_ff ?_); conv => whnf) | (with_reducible refine branch_not ?_)))
            refine ⟨ps ++ [⟨0, qs⟩], by simp; omega, le_mk ⟨rfl, rfl, rfl, rfl, int_eq (by simp; omega), trivial⟩ ⟨rfl, ?_, trivial⟩ rfl, by simp; omega⟩
            conv => lhs; whnf
            conv => lhs; arg 1; simp only [setRange, List.map, St.map, killF, bluO]
            simp [bluO, encFrm]
            rfl
        · (conv => whnf); (repeat (first | (refine arith_i ⟨by omega, by omega⟩ ?_; conv => whnf) | (refine need_i (by first | omega | (simp only [List.length_cons, List.length_nil]; omega)) ?_; conv => whnf) | ((with_reducible refine branch_tt ?_); conv => whnf) | ((with_reducible refine branch_ff ?_); conv => whnf) | (with_reducible refine branch_not ?_)))
          have h4 : ps.length ≤ 3 := by omega
          refine branch_d (fun g => ?_) (fun g => ?_)
          · (conv => whnf); (repeat (first | (refine arith_i ⟨by omega, by omega⟩ ?_; conv => whnf) | (refine need_i (by first | omega | (simp only [List.length_cons, List.length_nil]; omega)) ?_; conv => whnf) | ((with_reducible refine branch_tt ?_); conv => whnf) | ((with_reducible refine branch_ff ?_); conv => whnf) | (with_reducible refine branch_not ?_)))
            refine call_i (one_ok n (by omega)) fun r hr => ?_
            obtain ⟨bb, rfl⟩ := hr
            (conv => whnf); (repeat (first | (refine arith_i ⟨by omega, by omega⟩ ?_; conv => whnf) | (refine need_i (by first | omega | (simp only [List.length_cons, List.length_nil]; omega)) ?_; conv => whnf) | ((with_reducible refine branch_tt ?_); conv => whnf) | ((with_reducible refine branch_ff ?_); conv => whnf) | (with_reducible refine branch_not ?_)))
            cases bb with
            | false =>
              (conv => whnf); (repeat (first | (refine arith_i ⟨by omega, by omega⟩ ?_; conv => whnf) | (refine need_i (by first | omega | (simp only [List.length_cons, List.length_nil]; omega)) ?_; conv => whnf) | ((with_reducible refine branch_tt ?_); conv => whnf) | ((with_reducible refine branch_ff ?_); conv => whnf) | (with_reducible refine branch_not ?_)))
              exact blu_ret _ _ _ _ _ ts os rs ps (by omega) (by omega) (by omega) (by omega)
            | true =>
              (conv => whnf); (repeat (first | (refine arith_i ⟨by omega, by omega⟩ ?_; conv => whnf) | (refine need_i (by first | omega | (simp only [List.length_cons, List.length_nil]; omega)) ?_; conv => whnf) | ((with_reducible refine branch_tt ?_); conv => whnf) | ((with_reducible refine branch_ff ?_); conv => whnf) | (with_reducible refine branch_not ?_)))
              refine call_i (next_ok 7 (by omega)) fun r hr => ?_
              obtain ⟨x, rfl, -, hx⟩ := hr
              (conv => whnf); (repeat (first | (refine arith_i ⟨by omega, by omega⟩ ?_; conv => whnf) | (refine need_i (by first | omega | (simp only [List.length_cons, List.length_nil]; omega)) ?_; conv => whnf) | ((with_reducible refine branch_tt ?_); conv => whnf) | ((with_reducible refine branch_ff ?_); conv => whnf) | (with_reducible refine branch_not ?_)))
              refine branch_e (fun e0 => ?_) (fun e0 => ?_)
              · (conv => whnf); (repeat (first | (refine arith_i ⟨by omega, by omega⟩ ?_; conv => whnf) | (refine need_i (by first | omega | (simp only [List.length_cons, List.length_nil]; omega)) ?_; conv => whnf) | ((with_reducible refine branch_tt ?_); conv => whnf) | ((with_reducible refine branch_ff ?_); conv => whnf) | (with_reducible refine branch_not ?_)))
                refine call_i wild_ok fun r hr => ?_
                obtain ⟨y, rfl, -⟩ := hr
                (conv => whnf); (repeat (first | (refine arith_i ⟨by omega, by omega⟩ ?_; conv => whnf) | (refine need_i (by first | omega | (simp only [List.length_cons, List.length_nil]; omega)) ?_; conv => whnf) | ((with_reducible refine branch_tt ?_); conv => whnf) | ((with_reducible refine branch_ff ?_); conv => whnf) | (with_reducible refine branch_not ?_)))
                exact blu_ret _ _ _ _ _ ts os rs ps (by omega) (by omega) (by omega) (by omega)
              · (conv => whnf); (repeat (first | (refine arith_i ⟨by omega, by omega⟩ ?_; conv => whnf) | (refine need_i (by first | omega | (simp only [List.length_cons, List.length_nil]; omega)) ?_; conv => whnf) | ((with_reducible refine branch_tt ?_); conv => whnf) | ((with_reducible refine branch_ff ?_); conv => whnf) | (with_reducible refine branch_not ?_)))
                refine branch_e (fun e1 => ?_) (fun e1 => ?_)
                · (conv => whnf); (repeat (first | (refine arith_i ⟨by omega, by omega⟩ ?_; conv => whnf) | (refine need_i (by first | omega | (simp only [List.length_cons, List.length_nil]; omega)) ?_; conv => whnf) | ((with_reducible refine branch_tt ?_); conv => whnf) | ((with_reducible refine branch_ff ?_); conv => whnf) | (with_reducible refine branch_not ?_)))
                  refine call_i wild_ok fun r hr => ?_
                  obtain ⟨y, rfl, -⟩ := hr
                  (conv => whnf); (repeat (first | (refine arith_i ⟨by omega, by omega⟩ ?_; conv => whnf) | (refine need_i (by first | omega | (simp only [List.length_cons, List.length_nil]; omega)) ?_; conv => whnf) | ((with_reducible refine branch_tt ?_); conv => whnf) | ((with_reducible refine branch_ff ?_); conv => whnf) | (with_reducible refine branch_not ?_)))
                  exact blu_ret _ _ _ _ _ ts os rs ps (by omega) (by omega) (by omega) (by omega)
                · (conv => whnf); (repeat (first | (refine arith_i ⟨by omega, by omega⟩ ?_; conv => whnf) | (refine need_i (by first | omega | (simp only [List.length_cons, List.length_nil]; omega)) ?_; conv => whnf) | ((with_reducible refine branch_tt ?_); conv => whnf) | ((with_reducible refine branch_ff ?_); conv => whnf) | (with_reducible refine branch_not ?_)))
                  refine branch_e (fun e2 => ?_) (fun e2 => ?_)
                  · (conv => whnf); (repeat (first | (refine arith_i ⟨by omega, by omega⟩ ?_; conv => whnf) | (refine need_i (by first | omega | (simp only [List.length_cons, List.length_nil]; omega)) ?_; conv => whnf) | ((with_reducible refine branch_tt ?_); conv => whnf) | ((with_reducible refine branch_ff ?_); conv => whnf) | (with_reducible refine branch_not ?_)))
                    refine call_i (pick_ok [-1, 12, 13] (by decide) (by decide)) fun r hr => ?_
                    obtain ⟨y, rfl, -⟩ := hr
                    (conv => whnf); (repeat (first | (refine arith_i ⟨by omega, by omega⟩ ?_; conv => whnf) | (refine need_i (by first | omega | (simp only [List.length_cons, List.length_nil]; omega)) ?_; conv => whnf) | ((with_reducible refine branch_tt ?_); conv => whnf) | ((with_reducible refine branch_ff ?_); conv => whnf) | (with_reducible refine branch_not ?_)))
                    exact blu_ret _ _ _ _ _ ts os rs ps (by omega) (by omega) (by omega) (by omega)
                  · (conv => whnf); (repeat (first | (refine arith_i ⟨by omega, by omega⟩ ?_; conv => whnf) | (refine need_i (by first | omega | (simp only [List.length_cons, List.length_nil]; omega)) ?_; conv => whnf) | ((with_reducible refine branch_tt ?_); conv => whnf) | ((with_reducible refine branch_ff ?_); conv => whnf) | (with_reducible refine branch_not ?_)))
                    refine branch_e (fun e3 => ?_) (fun e3 => ?_)
                    · (conv => whnf); (repeat (first | (refine arith_i ⟨by omega, by omega⟩ ?_; conv => whnf) | (refine need_i (by first | omega | (simp only [List.length_cons, List.length_nil]; omega)) ?_; conv => whnf) | ((with_reducible refine branch_tt ?_); conv => whnf) | ((with_reducible refine branch_ff ?_); conv => whnf) | (with_reducible refine branch_not ?_)))
                      refine draw_i 13 (.take 0 (.take 1 (.take 2 (.take 5 (.take 7 (.alt 3 (.alt 4 (.alt 6 (.alt 8 (.take 9 (.alt 10 (.alt 11 (.take 12 (.alt 13 .done .stop)) .stop) .stop)) .stop) .stop) .stop) .stop)))))) (by decide +kernel) ?_
                      (conv => whnf); (repeat (first | (refine arith_i ⟨by omega, by omega⟩ ?_; conv => whnf) | (refine need_i (by first | omega | (simp only [List.length_cons, List.length_nil]; omega)) ?_; conv => whnf) | ((with_reducible refine branch_tt ?_); conv => whnf) | ((with_reducible refine branch_ff ?_); conv => whnf) | (with_reducible refine branch_not ?_)))
                      refine ⟨?_, trivial⟩
                      (conv => whnf); (repeat (first | (refine arith_i ⟨by omega, by omega⟩ ?_; conv => whnf) | (refine need_i (by first | omega | (simp only [List.length_cons, List.length_nil]; omega)) ?_; conv => whnf) | ((with_reducible refine branch_tt ?_); conv => whnf) | ((with_reducible refine branch_ff ?_); conv => whnf) | (with_reducible refine branch_not ?_)))
                      refine ⟨?_, trivial⟩
                      (conv => whnf); (repeat (first | (refine arith_i ⟨by omega, by omega⟩ ?_; conv => whnf) | (refine need_i (by first | omega | (simp only [List.length_cons, List.length_nil]; omega)) ?_; conv => whnf) | ((with_reducible refine branch_tt ?_); conv => whnf) | ((with_reducible refine branch_ff ?_); conv => whnf) | (with_reducible refine branch_not ?_)))
                      refine call_i (pick_ok [-1, 0, 15, 16] (by decide) (by decide)) fun r hr => ?_
                      obtain ⟨y, rfl, -⟩ := hr
                      (conv => whnf); (repeat (first | (refine arith_i ⟨by omega, by omega⟩ ?_; conv => whnf) | (refine need_i (by first | omega | (simp only [List.length_cons, List.length_nil]; omega)) ?_; conv => whnf) | ((with_reducible refine branch_tt ?_); conv => whnf) | ((with_reducible refine branch_ff ?_); conv => whnf) | (with_reducible refine branch_not ?_)))
                      refine ⟨?_, trivial⟩
                      (conv => whnf); (repeat (first | (refine arith_i ⟨by omega, by omega⟩ ?_; conv => whnf) | (refine need_i (by first | omega | (simp only [List.length_cons, List.length_nil]; omega)) ?_; conv => whnf) | ((with_reducible refine branch_tt ?_); conv => whnf) | ((with_reducible refine branch_ff ?_); conv => whnf) | (with_reducible refine branch_not ?_)))
                      refine call_i (wild_ok) fun r hr => ?_
                      obtain ⟨y1, rfl, -⟩ := hr
                      (conv => whnf); (repeat (first | (refine arith_i ⟨by omega, by omega⟩ ?_; conv => whnf) | (refine need_i (by first | omega | (simp only [List.length_cons, List.length_nil]; omega)) ?_; conv => whnf) | ((with_reducible refine branch_tt ?_); conv => whnf) | ((with_reducible refine branch_ff ?_); conv => whnf) | (with_reducible refine branch_not ?_)))
                      refine ⟨?_, trivial⟩
                      (conv => whnf); (repeat (first | (refine arith_i ⟨by omega, by omega⟩ ?_; conv => whnf) | (refine need_i (by first | omega | (simp only [List.length_cons, List.length_nil]; omega)) ?_; conv => whnf) | ((with_reducible refine branch_tt ?_); conv => whnf) | ((with_reducible refine branch_ff ?_); conv => whnf) | (with_reducible refine branch_not ?_)))
                      refine call_i (wild_ok) fun r hr => ?_
                      obtain ⟨y2, rfl, -⟩ := hr
                      (conv => whnf); (repeat (first | (refine arith_i ⟨by omega, by omega⟩ ?_; conv => whnf) | (refine need_i (by first | omega | (simp only [List.length_cons, List.length_nil]; omega)) ?_; conv => whnf) | ((with_reducible refine branch_tt ?_); conv => whnf) | ((with_reducible refine branch_ff ?_); conv => whnf) | (with_reducible refine branch_not ?_)))
                      refine ⟨?_, trivial⟩
                      (conv => whnf); (repeat (first | (refine arith_i ⟨by omega, by omega⟩ ?_; conv => whnf) | (refine need_i (by first | omega | (simp only [List.length_cons, List.length_nil]; omega)) ?_; conv => whnf) | ((with_reducible refine branch_tt ?_); conv => whnf) | ((with_reducible refine branch_ff ?_); conv => whnf) | (with_reducible refine branch_not ?_)))
                      refine ⟨?_, trivial⟩
                      (conv => whnf); (repeat (first | (refine arith_i ⟨by omega, by omega⟩ ?_; conv => whnf) | (refine need_i (by first | omega | (simp only [List.length_cons, List.length_nil]; omega)) ?_; conv => whnf) | ((with_reducible refine branch_tt ?_); conv => whnf) | ((with_reducible refine branch_ff ?_); conv => whnf) | (with_reducible refine branch_not ?_)))
                      refine ⟨?_, trivial⟩
                      (conv => whnf); (repeat (first | (refine arith_i ⟨by omega, by omega⟩ ?_; conv => whnf) | (refine need_i (by first | omega | (simp only [List.length_cons, List.length_nil]; omega)) ?_; conv => whnf) | ((with_reducible refine branch_tt ?_); conv => whnf) | ((with_reducible refine branch_ff ?_); conv => whnf) | (with_reducible refine branch_not ?_)))
                      refine blu_fin a (a + b') c d e (ts ++ [⟨y, y1, y2⟩]) os rs ps ?_ (by simp; omega) (by omega) (by omega) (by omega)
                      simp [bluO, encRng]
                      rfl
                    · (conv => whnf); (repeat (first | (refine arith_i ⟨by omega, by omega⟩ ?_; conv => whnf) | (refine need_i (by first | omega | (simp only [List.length_cons, List.length_nil]; omega)) ?_; conv => whnf) | ((with_reducible refine branch_tt ?_); conv => whnf) | ((with_reducible refine branch_ff ?_); conv => whnf) | (with_reducible refine branch_not ?_)))
                      refine branch_e (fun e4 => ?_) (fun e4 => ?_)
                      · (conv => whnf); (repeat (first | (refine arith_i ⟨by omega, by omega⟩ ?_; conv => whnf) | (refine need_i (by first | omega | (simp only [List.length_cons, List.length_nil]; omega)) ?_; conv => whnf) | ((with_reducible refine branch_tt ?_); conv => whnf) | ((with_reducible refine branch_ff ?_); conv => whnf) | (with_reducible refine branch_not ?_)))
                        refine draw_i 8 (.take 0 (.take 1 (.take 2 (.alt 3 (.alt 4 (.alt 5 (.alt 6 (.take 7 (.alt 8 .done .stop)) .stop) .stop) .stop) .stop)))) (by decide +kernel) ?_
                        (conv => whnf); (repeat (first | (refine arith_i ⟨by omega, by omega⟩ ?_; conv => whnf) | (refine need_i (by first | omega | (simp only [List.length_cons, List.length_nil]; omega)) ?_; conv => whnf) | ((with_reducible refine branch_tt ?_); conv => whnf) | ((with_reducible refine branch_ff ?_); conv => whnf) | (with_reducible refine branch_not ?_)))
                        refine ⟨?_, trivial⟩
                        (conv => whnf); (repeat (first | (refine arith_i ⟨by omega, by omega⟩ ?_; conv => whnf) | (refine need_i (by first | omega | (simp only [List.length_cons, List.length_nil]; omega)) ?_; conv => whnf) | ((with_reducible refine branch_tt ?_); conv => whnf) | ((with_reducible refine branch_ff ?_); conv => whnf) | (with_reducible refine branch_not ?_)))
                        refine ⟨?_, trivial⟩
                        (conv => whnf); (repeat (first | (refine arith_i ⟨by omega, by omega⟩ ?_; conv => whnf) | (refine need_i (by first | omega | (simp only [List.length_cons, List.length_nil]; omega)) ?_; conv => whnf) | ((with_reducible refine branch_tt ?_); conv => whnf) | ((with_reducible refine branch_ff ?_); conv => whnf) | (with_reducible refine branch_not ?_)))
                        refine call_i (pick_ok [0, -1, 9] (by decide) (by decide)) fun r hr => ?_
                        obtain ⟨y, rfl, -⟩ := hr
                        (conv => whnf); (repeat (first | (refine arith_i ⟨by omega, by omega⟩ ?_; conv => whnf) | (refine need_i (by first | omega | (simp only [List.length_cons, List.length_nil]; omega)) ?_; conv => whnf) | ((with_reducible refine branch_tt ?_); conv => whnf) | ((with_reducible refine branch_ff ?_); conv => whnf) | (with_reducible refine branch_not ?_)))
                        refine ⟨?_, trivial⟩
                        (conv => whnf); (repeat (first | (refine arith_i ⟨by omega, by omega⟩ ?_; conv => whnf) | (refine need_i (by first | omega | (simp only [List.length_cons, List.length_nil]; omega)) ?_; conv => whnf) | ((with_reducible refine branch_tt ?_); conv => whnf) | ((with_reducible refine branch_ff ?_); conv => whnf) | (with_reducible refine branch_not ?_)))
                        refine ⟨?_, trivial⟩
                        (conv => whnf); (repeat (first | (refine arith_i ⟨by omega, by omega⟩ ?_; conv => whnf) | (refine need_i (by first | omega | (simp only [List.length_cons, List.length_nil]; omega)) ?_; conv => whnf) | ((with_reducible refine branch_tt ?_); conv => whnf) | ((with_reducible refine branch_ff ?_); conv => whnf) | (with_reducible refine branch_not ?_)))
                        refine ⟨?_, trivial⟩
                        (conv => whnf); (repeat (first | (refine arith_i ⟨by omega, by omega⟩ ?_; conv => whnf) | (refine need_i (by first | omega | (simp only [List.length_cons, List.length_nil]; omega)) ?_; conv => whnf) | ((with_reducible refine branch_tt ?_); conv => whnf) | ((with_reducible refine branch_ff ?_); conv => whnf) | (with_reducible refine branch_not ?_)))
                        refine blu_fin a (a + b') c d e ts os (rs ++ [y]) ps ?_ (by omega) (by omega) (by simp; omega) (by omega)
                        simp [bluO, encI]
                        rfl
                      · (conv => whnf); (repeat (first | (refine arith_i ⟨by omega, by omega⟩ ?_; conv => whnf) | (refine need_i (by first | omega | (simp only [List.length_cons, List.length_nil]; omega)) ?_; conv => whnf) | ((with_reducible refine branch_tt ?_); conv => whnf) | ((with_reducible refine branch_ff ?_); conv => whnf) | (with_reducible refine branch_not ?_)))
                        refine branch_e (fun e5 => ?_) (fun e5 => ?_)
                        · (conv => whnf); (repeat (first | (refine arith_i ⟨by omega, by omega⟩ ?_; conv => whnf) | (refine need_i (by first | omega | (simp only [List.length_cons, List.length_nil]; omega)) ?_; conv => whnf) | ((with_reducible refine branch_tt ?_); conv => whnf) | ((with_reducible refine branch_ff ?_); conv => whnf) | (with_reducible refine branch_not ?_)))
                          refine nilAs_i 2 ?_
                          refine pres_int ?_
                          refine pres_nil ?_
                          refine nilAs_i 2 ?_
                          refine pres_int ?_
                          refine pres_nil ?_
                          refine nilAs_i 2 ?_
                          refine pres_end ?_
                          (conv => whnf); (repeat (first | (refine arith_i ⟨by omega, by omega⟩ ?_; conv => whnf) | (refine need_i (by first | omega | (simp only [List.length_cons, List.length_nil]; omega)) ?_; conv => whnf) | ((with_reducible refine branch_tt ?_); conv => whnf) | ((with_reducible refine branch_ff ?_); conv => whnf) | (with_reducible refine branch_not ?_)))
                          refine blu_fin a (a + b') c d e ts os rs (ps ++ [⟨0, []⟩, ⟨0, []⟩, ⟨0, []⟩]) ?_ (by omega) (by omega) (by omega) (by simp; omega)
                          simp [bluO, encFrm]
                          rfl
                        · (conv => whnf); (repeat (first | (refine arith_i ⟨by omega, by omega⟩ ?_; conv => whnf) | (refine need_i (by first | omega | (simp only [List.length_cons, List.length_nil]; omega)) ?_; conv => whnf) | ((with_reducible refine branch_tt ?_); conv => whnf) | ((with_reducible refine branch_ff ?_); conv => whnf) | (with_reducible refine branch_not ?_)))
                          refine draw_i 9 (.take 0 (.take 1 (.take 2 (.alt 3 (.alt 4 (.take 5 (.alt 6 (.alt 7 (.take 8 (.alt 9 .done .stop)) .stop) .stop)) .stop) .stop)))) (by decide +kernel) ?_
                          (conv => whnf); (repeat (first | (refine arith_i ⟨by omega, by omega⟩ ?_; conv => whnf) | (refine need_i (by first | omega | (simp only [List.length_cons, List.length_nil]; omega)) ?_; conv => whnf) | ((with_reducible refine branch_tt ?_); conv => whnf) | ((with_reducible refine branch_ff ?_); conv => whnf) | (with_reducible refine branch_not ?_)))
                          refine ⟨?_, trivial⟩
                          (conv => whnf); (repeat (first | (refine arith_i ⟨by omega, by omega⟩ ?_; conv => whnf) | (refine need_i (by first | omega | (simp only [List.length_cons, List.length_nil]; omega)) ?_; conv => whnf) | ((with_reducible refine branch_tt ?_); conv => whnf) | ((with_reducible refine branch_ff ?_); conv => whnf) | (with_reducible refine branch_not ?_)))
                          refine ⟨?_, trivial⟩
                          (conv => whnf); (repeat (first | (refine arith_i ⟨by omega, by omega⟩ ?_; conv => whnf) | (refine need_i (by first | omega | (simp only [List.length_cons, List.length_nil]; omega)) ?_; conv => whnf) | ((with_reducible refine branch_tt ?_); conv => whnf) | ((with_reducible refine branch_ff ?_); conv => whnf) | (with_reducible refine branch_not ?_)))
                          refine call_i (pick_ok [0, 5, 6] (by decide) (by decide)) fun r hr => ?_
                          obtain ⟨y, rfl, -⟩ := hr
                          (conv => whnf); (repeat (first | (refine arith_i ⟨by omega, by omega⟩ ?_; conv => whnf) | (refine need_i (by first | omega | (simp only [List.length_cons, List.length_nil]; omega)) ?_; conv => whnf) | ((with_reducible refine branch_tt ?_); conv => whnf) | ((with_reducible refine branch_ff ?_); conv => whnf) | (with_reducible refine branch_not ?_)))
                          refine ⟨?_, trivial⟩
                          (conv => whnf); (repeat (first | (refine arith_i ⟨by omega, by omega⟩ ?_; conv => whnf) | (refine need_i (by first | omega | (simp only [List.length_cons, List.length_nil]; omega)) ?_; conv => whnf) | ((with_reducible refine branch_tt ?_); conv => whnf) | ((with_reducible refine branch_ff ?_); conv => whnf) | (with_reducible refine branch_not ?_)))
                          refine ⟨?_, trivial⟩
                          (conv => whnf); (repeat (first | (refine arith_i ⟨by omega, by omega⟩ ?_; conv => whnf) | (refine need_i (by first | omega | (simp only [List.length_cons, List.length_nil]; omega)) ?_; conv => whnf) | ((with_reducible refine branch_tt ?_); conv => whnf) | ((with_reducible refine branch_ff ?_); conv => whnf) | (with_reducible refine branch_not ?_)))
                          refine ⟨?_, trivial⟩
                          (conv => whnf); (repeat (first | (refine arith_i ⟨by omega, by omega⟩ ?_; conv => whnf) | (refine need_i (by first | omega | (simp only [List.length_cons, List.length_nil]; omega)) ?_; conv => whnf) | ((with_reducible refine branch_tt ?_); conv => whnf) | ((with_reducible refine branch_ff ?_); conv => whnf) | (with_reducible refine branch_not ?_)))
                          refine blu_fin a (a + b') c d e ts (os ++ [⟨y, 0, 4⟩]) rs ps ?_ (by omega) (by simp; omega) (by omega) (by omega)
                          simp [bluO, encRng]
                          rfl
          · (conv => whnf); (repeat (first | (refine arith_i ⟨by omega, by omega⟩ ?_; conv => whnf) | (refine need_i (by first | omega | (simp only [List.length_cons, List.length_nil]; omega)) ?_; conv => whnf) | ((with_reducible refine branch_tt ?_); conv => whnf) | ((with_reducible refine branch_ff ?_); conv => whnf) | (with_reducible refine branch_not ?_)))
            exact blu_ret _ _ _ _ _ ts os rs ps (by omega) (by omega) (by omega) (by omega)
end Go.Proofs.Ytipelkbdonfkoaa
