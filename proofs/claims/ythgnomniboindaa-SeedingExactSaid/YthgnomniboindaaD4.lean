/- Several texts in one: GL25q, GL25r, GL25s, GL25u, GL25v, GL26a, GL25B. -/
import Derived.Test.YthgnomniboindaaD3
/- Layer 25, by the interpreter: the generators of lists of papers, of scripts. (Printed by wip/mk24h.py.) -/
section
namespace Go.Proofs.Ythgnomniboindaa
set_option linter.unusedVariables false
set_option linter.unusedSimpArgs false
set_option linter.unnecessarySimpa false
set_option linter.unusedSectionVars false
set_option maxRecDepth 10000
open Go.RowKit
theorem good_sc {p : Pap} {c x : Int} {a b : List Int} (h1 : 0 ≤ p.code) (h2 : p.code ≤ 1) (hv : 0 ≤ p.variant ∧ p.variant ≤ 1) (hc : 0 ≤ c ∧ c ≤ 100) (hx : 0 ≤ x ∧ x < 3) : GoodS ⟨p.code * 10000 + c, p.code, c, 1 + x, p.variant, a, b⟩ :=
  ⟨by simp only [papB, Bool.and_eq_true, decide_eq_true_eq]; omega, by simp only; omega, by simp only; omega, by simp only; omega, rfl⟩
def ScrR (p : Pap) (c : Int) (r : AV) : Prop := ∃ s : Scr, r = .agg (encR s) ∧ GoodS s ∧ s.pages.length = 2 ∧ s.paper = p.code ∧ s.cand = c ∧ s.variant = p.variant
def scr0 : List AV := [.int .i64 0, .int .i64 0, .int .i64 0, .int .i64 0, .int .i64 0, .nil, .nil]
theorem script_ok (p : Pap) (c : Int) (hp : OkPap p) (hc : 0 ≤ c ∧ c ≤ 100) : Good Try.prog TT true 53 [.tape, .agg (encPap p), .int .i64 c] (ScrR p c) := by
  have L : (p.parts.map encPrt).length = p.parts.length := List.length_map ..
  obtain ⟨h1, h2, h3, h4⟩ := hp
  refine good_of_c (fun i => Nat.beq i 2) mixed tabOk Try.func53 rfl rfl Try.ntmps53 Try.results53 rfl rfl ?_
  (conv => whnf); (repeat (first | (refine arith_i ⟨by omega, by omega⟩ ?_; conv => whnf) | (refine need_i (by first | omega | (simp only [List.length_append, List.length_cons, List.length_nil]; omega)) ?_; conv => whnf) | ((with_reducible first | refine branch_tt ?_ | refine branch_ff ?_); conv => whnf) | (with_reducible refine branch_not ?_) | ((with_reducible first | refine slc_e ?_ | refine callS_a ?_ | refine bld_a ?_ | refine own_e ?_ | refine mkmap_b ?_ | refine lnk_a ?_); conv => whnf)))
  refine draw_i 23 (.take 0 (.take 1 (.take 2 (.take 3 (.take 4 (.take 5 (.take 6 (.take 7 (.take 8 (.take 11 (.take 12 (.take 13 (.take 14 (.take 15 (.take 16 (.take 17 (.take 18 (.alt 9 (.take 10 (.alt 19 (.alt 20 (.take 21 (.alt 22 (.alt 23 .done .stop) .stop)) (.alt 22 (.alt 20 (.take 21 (.alt 23 .done .stop)) .stop) .stop)) (.alt 22 (.alt 19 (.alt 20 (.take 21 (.alt 23 .done .stop)) .stop) .stop) .stop))) (.alt 22 (.alt 9 (.take 10 (.alt 19 (.alt 20 (.take 21 (.alt 23 .done .stop)) .stop) .stop)) .stop) .stop))))))))))))))))))) (by decide +kernel) ?_
  (conv => whnf); (repeat (first | (refine arith_i ⟨by omega, by omega⟩ ?_; conv => whnf) | (refine need_i (by first | omega | (simp only [List.length_append, List.length_cons, List.length_nil]; omega)) ?_; conv => whnf) | ((with_reducible first | refine branch_tt ?_ | refine branch_ff ?_); conv => whnf) | (with_reducible refine branch_not ?_) | ((with_reducible first | refine slc_e ?_ | refine callS_a ?_ | refine bld_a ?_ | refine own_e ?_ | refine mkmap_b ?_ | refine lnk_a ?_); conv => whnf)))
  refine ⟨?_, ?_, trivial⟩
  · (conv => whnf); (repeat (first | (refine arith_i ⟨by omega, by omega⟩ ?_; conv => whnf) | (refine need_i (by first | omega | (simp only [List.length_append, List.length_cons, List.length_nil]; omega)) ?_; conv => whnf) | ((with_reducible first | refine branch_tt ?_ | refine branch_ff ?_); conv => whnf) | (with_reducible refine branch_not ?_) | ((with_reducible first | refine slc_e ?_ | refine callS_a ?_ | refine bld_a ?_ | refine own_e ?_ | refine mkmap_b ?_ | refine lnk_a ?_); conv => whnf)))
    refine call_i (next_ok 3 (by omega)) fun r hr => ?_
    obtain ⟨x, rfl, -, hx⟩ := hr
    replace hx := hx (by omega)
    (conv => whnf); (repeat (first | (refine arith_i ⟨by omega, by omega⟩ ?_; conv => whnf) | (refine need_i (by first | omega | (simp only [List.length_append, List.length_cons, List.length_nil]; omega)) ?_; conv => whnf) | ((with_reducible first | refine branch_tt ?_ | refine branch_ff ?_); conv => whnf) | (with_reducible refine branch_not ?_) | ((with_reducible first | refine slc_e ?_ | refine callS_a ?_ | refine bld_a ?_ | refine own_e ?_ | refine mkmap_b ?_ | refine lnk_a ?_); conv => whnf)))
    refine ⟨?_, ?_, trivial⟩
    · (conv => whnf); (repeat (first | (refine arith_i ⟨by omega, by omega⟩ ?_; conv => whnf) | (refine need_i (by first | omega | (simp only [List.length_append, List.length_cons, List.length_nil]; omega)) ?_; conv => whnf) | ((with_reducible first | refine branch_tt ?_ | refine branch_ff ?_); conv => whnf) | (with_reducible refine branch_not ?_) | ((with_reducible first | refine slc_e ?_ | refine callS_a ?_ | refine bld_a ?_ | refine own_e ?_ | refine mkmap_b ?_ | refine lnk_a ?_); conv => whnf)))
      refine call_i (next_ok 3 (by omega)) fun r hr => ?_
      obtain ⟨y, rfl, -, hy⟩ := hr
      replace hy := hy (by omega)
      (conv => whnf); (repeat (first | (refine arith_i ⟨by omega, by omega⟩ ?_; conv => whnf) | (refine need_i (by first | omega | (simp only [List.length_append, List.length_cons, List.length_nil]; omega)) ?_; conv => whnf) | ((with_reducible first | refine branch_tt ?_ | refine branch_ff ?_); conv => whnf) | (with_reducible refine branch_not ?_) | ((with_reducible first | refine slc_e ?_ | refine callS_a ?_ | refine bld_a ?_ | refine own_e ?_ | refine mkmap_b ?_ | refine lnk_a ?_); conv => whnf)))
      refine ⟨?_, ?_, trivial⟩
      · (conv => whnf); (repeat (first | (refine arith_i ⟨by omega, by omega⟩ ?_; conv => whnf) | (refine need_i (by first | omega | (simp only [List.length_append, List.length_cons, List.length_nil]; omega)) ?_; conv => whnf) | ((with_reducible first | refine branch_tt ?_ | refine branch_ff ?_); conv => whnf) | (with_reducible refine branch_not ?_) | ((with_reducible first | refine slc_e ?_ | refine callS_a ?_ | refine bld_a ?_ | refine own_e ?_ | refine mkmap_b ?_ | refine lnk_a ?_); conv => whnf)))
        refine ⟨?_, trivial⟩
        (conv => whnf); (repeat (first | (refine arith_i ⟨by omega, by omega⟩ ?_; conv => whnf) | (refine need_i (by first | omega | (simp only [List.length_append, List.length_cons, List.length_nil]; omega)) ?_; conv => whnf) | ((with_reducible first | refine branch_tt ?_ | refine branch_ff ?_); conv => whnf) | (with_reducible refine branch_not ?_) | ((with_reducible first | refine slc_e ?_ | refine callS_a ?_ | refine bld_a ?_ | refine own_e ?_ | refine mkmap_b ?_ | refine lnk_a ?_); conv => whnf)))
        refine ⟨?_, trivial⟩
        (conv => whnf); (repeat (first | (refine arith_i ⟨by omega, by omega⟩ ?_; conv => whnf) | (refine need_i (by first | omega | (simp only [List.length_append, List.length_cons, List.length_nil]; omega)) ?_; conv => whnf) | ((with_reducible first | refine branch_tt ?_ | refine branch_ff ?_); conv => whnf) | (with_reducible refine branch_not ?_) | ((with_reducible first | refine slc_e ?_ | refine callS_a ?_ | refine bld_a ?_ | refine own_e ?_ | refine mkmap_b ?_ | refine lnk_a ?_); conv => whnf)))
        refine rest_i (mkSt [(0, .tape), (4, .ptr 4 0), (6, .ptr 6 0), (7, .ptr 7 0)] [(4, encPap p), (6, scr0), (7, [.int .i64 (p.code * 10000 + c), .int .i64 p.code, .int .i64 c, .int .i64 (1 + x), .int .i64 p.variant, .own 30 3 1 [[.int .i64 (100 * c + p.code)], [.int .i64 y]], .nil])] true) (le_mk ⟨rfl, rfl, rfl, rfl, trivial⟩ ⟨rfl, rfl, rfl, trivial⟩ rfl) ?_
        (conv => whnf); (repeat (first | (refine arith_i ⟨by omega, by omega⟩ ?_; conv => whnf) | (refine need_i (by first | omega | (simp only [List.length_append, List.length_cons, List.length_nil]; omega)) ?_; conv => whnf) | ((with_reducible first | refine branch_tt ?_ | refine branch_ff ?_); conv => whnf) | (with_reducible refine branch_not ?_) | ((with_reducible first | refine slc_e ?_ | refine callS_a ?_ | refine bld_a ?_ | refine own_e ?_ | refine mkmap_b ?_ | refine lnk_a ?_); conv => whnf)))
        refine loop_i (fun an : List Int => an.length ≤ p.parts.length) (fun an => mkSt [(0, .tape), (4, .ptr 4 0), (6, .ptr 6 0), (7, .ptr 7 0), (8, .int .i64 an.length)] [(4, encPap p), (6, scr0), (7, [.int .i64 (p.code * 10000 + c), .int .i64 p.code, .int .i64 c, .int .i64 (1 + x), .int .i64 p.variant, .own 30 3 1 [[.int .i64 (100 * c + p.code)], [.int .i64 y]], .own 200 3 1 (an.map encI)])] true) (fun an => p.parts.length - an.length) [] (Nat.zero_le _) (Le.trans (le_adoptBox 7 6 200 3 1 rfl rfl) (le_mk ⟨rfl, rfl, rfl, rfl, rfl, trivial⟩ ⟨rfl, rfl, rfl, trivial⟩ rfl)) ?_
        intro an ha
        have La : (an.map encI).length = an.length := List.length_map ..
        (conv => whnf); (repeat (first | (refine arith_i ⟨by omega, by omega⟩ ?_; conv => whnf) | (refine need_i (by first | omega | (simp only [List.length_append, List.length_cons, List.length_nil]; omega)) ?_; conv => whnf) | ((with_reducible first | refine branch_tt ?_ | refine branch_ff ?_); conv => whnf) | (with_reducible refine branch_not ?_) | ((with_reducible first | refine slc_e ?_ | refine callS_a ?_ | refine bld_a ?_ | refine own_e ?_ | refine mkmap_b ?_ | refine lnk_a ?_); conv => whnf)))
        refine branch_d (fun h => ?_) (fun h => ?_)
        · (conv => whnf); (repeat (first | (refine arith_i ⟨by omega, by omega⟩ ?_; conv => whnf) | (refine need_i (by first | omega | (simp only [List.length_append, List.length_cons, List.length_nil]; omega)) ?_; conv => whnf) | ((with_reducible first | refine branch_tt ?_ | refine branch_ff ?_); conv => whnf) | (with_reducible refine branch_not ?_) | ((with_reducible first | refine slc_e ?_ | refine callS_a ?_ | refine bld_a ?_ | refine own_e ?_ | refine mkmap_b ?_ | refine lnk_a ?_); conv => whnf)))
          refine idx_m (by omega) (by omega) fun t ht => ?_
          (conv => whnf); (repeat (first | (refine arith_i ⟨by omega, by omega⟩ ?_; conv => whnf) | (refine need_i (by first | omega | (simp only [List.length_append, List.length_cons, List.length_nil]; omega)) ?_; conv => whnf) | ((with_reducible first | refine branch_tt ?_ | refine branch_ff ?_); conv => whnf) | (with_reducible refine branch_not ?_) | ((with_reducible first | refine slc_e ?_ | refine callS_a ?_ | refine bld_a ?_ | refine own_e ?_ | refine mkmap_b ?_ | refine lnk_a ?_); conv => whnf)))
          refine branch_e (fun hk => ?_) (fun hk => ?_)
          · (conv => whnf); (repeat (first | (refine arith_i ⟨by omega, by omega⟩ ?_; conv => whnf) | (refine need_i (by first | omega | (simp only [List.length_append, List.length_cons, List.length_nil]; omega)) ?_; conv => whnf) | ((with_reducible first | refine branch_tt ?_ | refine branch_ff ?_); conv => whnf) | (with_reducible refine branch_not ?_) | ((with_reducible first | refine slc_e ?_ | refine callS_a ?_ | refine bld_a ?_ | refine own_e ?_ | refine mkmap_b ?_ | refine lnk_a ?_); conv => whnf)))
            refine idx_m (by omega) (by omega) fun t' ht' => ?_
            (conv => whnf); (repeat (first | (refine arith_i ⟨by omega, by omega⟩ ?_; conv => whnf) | (refine need_i (by first | omega | (simp only [List.length_append, List.length_cons, List.length_nil]; omega)) ?_; conv => whnf) | ((with_reducible first | refine branch_tt ?_ | refine branch_ff ?_); conv => whnf) | (with_reducible refine branch_not ?_) | ((with_reducible first | refine slc_e ?_ | refine callS_a ?_ | refine bld_a ?_ | refine own_e ?_ | refine mkmap_b ?_ | refine lnk_a ?_); conv => whnf)))
            refine call_i (pick_ok [t'.key, 0, 1, -1, -2] (by simp) (by simp)) fun r hr => ?_
            obtain ⟨u, rfl, -⟩ := hr
            (conv => whnf); (repeat (first | (refine arith_i ⟨by omega, by omega⟩ ?_; conv => whnf) | (refine need_i (by first | omega | (simp only [List.length_append, List.length_cons, List.length_nil]; omega)) ?_; conv => whnf) | ((with_reducible first | refine branch_tt ?_ | refine branch_ff ?_); conv => whnf) | (with_reducible refine branch_not ?_) | ((with_reducible first | refine slc_e ?_ | refine callS_a ?_ | refine bld_a ?_ | refine own_e ?_ | refine mkmap_b ?_ | refine lnk_a ?_); conv => whnf)))
            refine ⟨an ++ [u], by simp; omega, le_mk ⟨rfl, rfl, rfl, rfl, int_eq (by simp), trivial⟩ ⟨rfl, rfl, ?_, trivial⟩ rfl, by simp; omega⟩
            simp only [List.map_append, List.map_cons, List.map_nil]
            rfl
          · (conv => whnf); (repeat (first | (refine arith_i ⟨by omega, by omega⟩ ?_; conv => whnf) | (refine need_i (by first | omega | (simp only [List.length_append, List.length_cons, List.length_nil]; omega)) ?_; conv => whnf) | ((with_reducible first | refine branch_tt ?_ | refine branch_ff ?_); conv => whnf) | (with_reducible refine branch_not ?_) | ((with_reducible first | refine slc_e ?_ | refine callS_a ?_ | refine bld_a ?_ | refine own_e ?_ | refine mkmap_b ?_ | refine lnk_a ?_); conv => whnf)))
            refine ⟨an ++ [-1], by simp; omega, le_mk ⟨rfl, rfl, rfl, rfl, int_eq (by simp), trivial⟩ ⟨rfl, rfl, ?_, trivial⟩ rfl, by simp; omega⟩
            simp only [List.map_append, List.map_cons, List.map_nil]
            rfl
        · (conv => whnf); (repeat (first | (refine arith_i ⟨by omega, by omega⟩ ?_; conv => whnf) | (refine need_i (by first | omega | (simp only [List.length_append, List.length_cons, List.length_nil]; omega)) ?_; conv => whnf) | ((with_reducible first | refine branch_tt ?_ | refine branch_ff ?_); conv => whnf) | (with_reducible refine branch_not ?_) | ((with_reducible first | refine slc_e ?_ | refine callS_a ?_ | refine bld_a ?_ | refine own_e ?_ | refine mkmap_b ?_ | refine lnk_a ?_); conv => whnf)))
          exact ret_a (cs' := encR ⟨p.code * 10000 + c, p.code, c, 1 + x, p.variant, [100 * c + p.code, y], an⟩) ⟨rc_p rfl, rc_p rfl, rc_p rfl, rc_p rfl, rc_p rfl, rc_o, rc_o, trivial⟩ ⟨_, rfl, good_sc h1 h2 h4.2.1 hc (by omega), rfl, rfl, rfl, rfl⟩
      · (conv => whnf); (repeat (first | (refine arith_i ⟨by omega, by omega⟩ ?_; conv => whnf) | (refine need_i (by first | omega | (simp only [List.length_append, List.length_cons, List.length_nil]; omega)) ?_; conv => whnf) | ((with_reducible first | refine branch_tt ?_ | refine branch_ff ?_); conv => whnf) | (with_reducible refine branch_not ?_) | ((with_reducible first | refine slc_e ?_ | refine callS_a ?_ | refine bld_a ?_ | refine own_e ?_ | refine mkmap_b ?_ | refine lnk_a ?_); conv => whnf)))
        refine ⟨?_, trivial⟩
        (conv => whnf); (repeat (first | (refine arith_i ⟨by omega, by omega⟩ ?_; conv => whnf) | (refine need_i (by first | omega | (simp only [List.length_append, List.length_cons, List.length_nil]; omega)) ?_; conv => whnf) | ((with_reducible first | refine branch_tt ?_ | refine branch_ff ?_); conv => whnf) | (with_reducible refine branch_not ?_) | ((with_reducible first | refine slc_e ?_ | refine callS_a ?_ | refine bld_a ?_ | refine own_e ?_ | refine mkmap_b ?_ | refine lnk_a ?_); conv => whnf)))
        refine ⟨?_, trivial⟩
        (conv => whnf); (repeat (first | (refine arith_i ⟨by omega, by omega⟩ ?_; conv => whnf) | (refine need_i (by first | omega | (simp only [List.length_append, List.length_cons, List.length_nil]; omega)) ?_; conv => whnf) | ((with_reducible first | refine branch_tt ?_ | refine branch_ff ?_); conv => whnf) | (with_reducible refine branch_not ?_) | ((with_reducible first | refine slc_e ?_ | refine callS_a ?_ | refine bld_a ?_ | refine own_e ?_ | refine mkmap_b ?_ | refine lnk_a ?_); conv => whnf)))
        refine rest_i (mkSt [(0, .tape), (4, .ptr 4 0), (6, .ptr 6 0), (7, .ptr 7 0)] [(4, encPap p), (6, scr0), (7, [.int .i64 (p.code * 10000 + c), .int .i64 p.code, .int .i64 c, .int .i64 (1 + x), .int .i64 p.variant, .own 30 3 1 [[.int .i64 (100 * c + p.code)], [.int .i64 y]], .nil])] true) (le_mk ⟨rfl, rfl, rfl, rfl, trivial⟩ ⟨rfl, rfl, rfl, trivial⟩ rfl) ?_
        (conv => whnf); (repeat (first | (refine arith_i ⟨by omega, by omega⟩ ?_; conv => whnf) | (refine need_i (by first | omega | (simp only [List.length_append, List.length_cons, List.length_nil]; omega)) ?_; conv => whnf) | ((with_reducible first | refine branch_tt ?_ | refine branch_ff ?_); conv => whnf) | (with_reducible refine branch_not ?_) | ((with_reducible first | refine slc_e ?_ | refine callS_a ?_ | refine bld_a ?_ | refine own_e ?_ | refine mkmap_b ?_ | refine lnk_a ?_); conv => whnf)))
        refine loop_i (fun an : List Int => an.length ≤ p.parts.length) (fun an => mkSt [(0, .tape), (4, .ptr 4 0), (6, .ptr 6 0), (7, .ptr 7 0), (8, .int .i64 an.length)] [(4, encPap p), (6, scr0), (7, [.int .i64 (p.code * 10000 + c), .int .i64 p.code, .int .i64 c, .int .i64 (1 + x), .int .i64 p.variant, .own 30 3 1 [[.int .i64 (100 * c + p.code)], [.int .i64 y]], .own 200 3 1 (an.map encI)])] true) (fun an => p.parts.length - an.length) [] (Nat.zero_le _) (Le.trans (le_adoptBox 7 6 200 3 1 rfl rfl) (le_mk ⟨rfl, rfl, rfl, rfl, rfl, trivial⟩ ⟨rfl, rfl, rfl, trivial⟩ rfl)) ?_
        intro an ha
        have La : (an.map encI).length = an.length := List.length_map ..
        (conv => whnf); (repeat (first | (refine arith_i ⟨by omega, by omega⟩ ?_; conv => whnf) | (refine need_i (by first | omega | (simp only [List.length_append, List.length_cons, List.length_nil]; omega)) ?_; conv => whnf) | ((with_reducible first | refine branch_tt ?_ | refine branch_ff ?_); conv => whnf) | (with_reducible refine branch_not ?_) | ((with_reducible first | refine slc_e ?_ | refine callS_a ?_ | refine bld_a ?_ | refine own_e ?_ | refine mkmap_b ?_ | refine lnk_a ?_); conv => whnf)))
        refine branch_d (fun h => ?_) (fun h => ?_)
        · (conv => whnf); (repeat (first | (refine arith_i ⟨by omega, by omega⟩ ?_; conv => whnf) | (refine need_i (by first | omega | (simp only [List.length_append, List.length_cons, List.length_nil]; omega)) ?_; conv => whnf) | ((with_reducible first | refine branch_tt ?_ | refine branch_ff ?_); conv => whnf) | (with_reducible refine branch_not ?_) | ((with_reducible first | refine slc_e ?_ | refine callS_a ?_ | refine bld_a ?_ | refine own_e ?_ | refine mkmap_b ?_ | refine lnk_a ?_); conv => whnf)))
          refine idx_m (by omega) (by omega) fun t ht => ?_
          (conv => whnf); (repeat (first | (refine arith_i ⟨by omega, by omega⟩ ?_; conv => whnf) | (refine need_i (by first | omega | (simp only [List.length_append, List.length_cons, List.length_nil]; omega)) ?_; conv => whnf) | ((with_reducible first | refine branch_tt ?_ | refine branch_ff ?_); conv => whnf) | (with_reducible refine branch_not ?_) | ((with_reducible first | refine slc_e ?_ | refine callS_a ?_ | refine bld_a ?_ | refine own_e ?_ | refine mkmap_b ?_ | refine lnk_a ?_); conv => whnf)))
          refine branch_e (fun hk => ?_) (fun hk => ?_)
          · (conv => whnf); (repeat (first | (refine arith_i ⟨by omega, by omega⟩ ?_; conv => whnf) | (refine need_i (by first | omega | (simp only [List.length_append, List.length_cons, List.length_nil]; omega)) ?_; conv => whnf) | ((with_reducible first | refine branch_tt ?_ | refine branch_ff ?_); conv => whnf) | (with_reducible refine branch_not ?_) | ((with_reducible first | refine slc_e ?_ | refine callS_a ?_ | refine bld_a ?_ | refine own_e ?_ | refine mkmap_b ?_ | refine lnk_a ?_); conv => whnf)))
            refine idx_m (by omega) (by omega) fun t' ht' => ?_
            (conv => whnf); (repeat (first | (refine arith_i ⟨by omega, by omega⟩ ?_; conv => whnf) | (refine need_i (by first | omega | (simp only [List.length_append, List.length_cons, List.length_nil]; omega)) ?_; conv => whnf) | ((with_reducible first | refine branch_tt ?_ | refine branch_ff ?_); conv => whnf) | (with_reducible refine branch_not ?_) | ((with_reducible first | refine slc_e ?_ | refine callS_a ?_ | refine bld_a ?_ | refine own_e ?_ | refine mkmap_b ?_ | refine lnk_a ?_); conv => whnf)))
            refine call_i (pick_ok [t'.key, 0, 1, -1, -2] (by simp) (by simp)) fun r hr => ?_
            obtain ⟨u, rfl, -⟩ := hr
            (conv => whnf); (repeat (first | (refine arith_i ⟨by omega, by omega⟩ ?_; conv => whnf) | (refine need_i (by first | omega | (simp only [List.length_append, List.length_cons, List.length_nil]; omega)) ?_; conv => whnf) | ((with_reducible first | refine branch_tt ?_ | refine branch_ff ?_); conv => whnf) | (with_reducible refine branch_not ?_) | ((with_reducible first | refine slc_e ?_ | refine callS_a ?_ | refine bld_a ?_ | refine own_e ?_ | refine mkmap_b ?_ | refine lnk_a ?_); conv => whnf)))
            refine ⟨an ++ [u], by simp; omega, le_mk ⟨rfl, rfl, rfl, rfl, int_eq (by simp), trivial⟩ ⟨rfl, rfl, ?_, trivial⟩ rfl, by simp; omega⟩
            simp only [List.map_append, List.map_cons, List.map_nil]
            rfl
          · (conv => whnf); (repeat (first | (refine arith_i ⟨by omega, by omega⟩ ?_; conv => whnf) | (refine need_i (by first | omega | (simp only [List.length_append, List.length_cons, List.length_nil]; omega)) ?_; conv => whnf) | ((with_reducible first | refine branch_tt ?_ | refine branch_ff ?_); conv => whnf) | (with_reducible refine branch_not ?_) | ((with_reducible first | refine slc_e ?_ | refine callS_a ?_ | refine bld_a ?_ | refine own_e ?_ | refine mkmap_b ?_ | refine lnk_a ?_); conv => whnf)))
            refine ⟨an ++ [-1], by simp; omega, le_mk ⟨rfl, rfl, rfl, rfl, int_eq (by simp), trivial⟩ ⟨rfl, rfl, ?_, trivial⟩ rfl, by simp; omega⟩
            simp only [List.map_append, List.map_cons, List.map_nil]
            rfl
        · (conv => whnf); (repeat (first | (refine arith_i ⟨by omega, by omega⟩ ?_; conv => whnf) | (refine need_i (by first | omega | (simp only [List.length_append, List.length_cons, List.length_nil]; omega)) ?_; conv => whnf) | ((with_reducible first | refine branch_tt ?_ | refine branch_ff ?_); conv => whnf) | (with_reducible refine branch_not ?_) | ((with_reducible first | refine slc_e ?_ | refine callS_a ?_ | refine bld_a ?_ | refine own_e ?_ | refine mkmap_b ?_ | refine lnk_a ?_); conv => whnf)))
          exact ret_a (cs' := encR ⟨p.code * 10000 + c, p.code, c, 1 + x, p.variant, [100 * c + p.code, y], an⟩) ⟨rc_p rfl, rc_p rfl, rc_p rfl, rc_p rfl, rc_p rfl, rc_o, rc_o, trivial⟩ ⟨_, rfl, good_sc h1 h2 h4.2.1 hc (by omega), rfl, rfl, rfl, rfl⟩
    · (conv => whnf); (repeat (first | (refine arith_i ⟨by omega, by omega⟩ ?_; conv => whnf) | (refine need_i (by first | omega | (simp only [List.length_append, List.length_cons, List.length_nil]; omega)) ?_; conv => whnf) | ((with_reducible first | refine branch_tt ?_ | refine branch_ff ?_); conv => whnf) | (with_reducible refine branch_not ?_) | ((with_reducible first | refine slc_e ?_ | refine callS_a ?_ | refine bld_a ?_ | refine own_e ?_ | refine mkmap_b ?_ | refine lnk_a ?_); conv => whnf)))
      refine ⟨?_, trivial⟩
      (conv => whnf); (repeat (first | (refine arith_i ⟨by omega, by omega⟩ ?_; conv => whnf) | (refine need_i (by first | omega | (simp only [List.length_append, List.length_cons, List.length_nil]; omega)) ?_; conv => whnf) | ((with_reducible first | refine branch_tt ?_ | refine branch_ff ?_); conv => whnf) | (with_reducible refine branch_not ?_) | ((with_reducible first | refine slc_e ?_ | refine callS_a ?_ | refine bld_a ?_ | refine own_e ?_ | refine mkmap_b ?_ | refine lnk_a ?_); conv => whnf)))
      refine call_i (next_ok 3 (by omega)) fun r hr => ?_
      obtain ⟨y, rfl, -, hy⟩ := hr
      replace hy := hy (by omega)
      (conv => whnf); (repeat (first | (refine arith_i ⟨by omega, by omega⟩ ?_; conv => whnf) | (refine need_i (by first | omega | (simp only [List.length_append, List.length_cons, List.length_nil]; omega)) ?_; conv => whnf) | ((with_reducible first | refine branch_tt ?_ | refine branch_ff ?_); conv => whnf) | (with_reducible refine branch_not ?_) | ((with_reducible first | refine slc_e ?_ | refine callS_a ?_ | refine bld_a ?_ | refine own_e ?_ | refine mkmap_b ?_ | refine lnk_a ?_); conv => whnf)))
      refine ⟨?_, trivial⟩
      (conv => whnf); (repeat (first | (refine arith_i ⟨by omega, by omega⟩ ?_; conv => whnf) | (refine need_i (by first | omega | (simp only [List.length_append, List.length_cons, List.length_nil]; omega)) ?_; conv => whnf) | ((with_reducible first | refine branch_tt ?_ | refine branch_ff ?_); conv => whnf) | (with_reducible refine branch_not ?_) | ((with_reducible first | refine slc_e ?_ | refine callS_a ?_ | refine bld_a ?_ | refine own_e ?_ | refine mkmap_b ?_ | refine lnk_a ?_); conv => whnf)))
      refine ⟨?_, trivial⟩
      (conv => whnf); (repeat (first | (refine arith_i ⟨by omega, by omega⟩ ?_; conv => whnf) | (refine need_i (by first | omega | (simp only [List.length_append, List.length_cons, List.length_nil]; omega)) ?_; conv => whnf) | ((with_reducible first | refine branch_tt ?_ | refine branch_ff ?_); conv => whnf) | (with_reducible refine branch_not ?_) | ((with_reducible first | refine slc_e ?_ | refine callS_a ?_ | refine bld_a ?_ | refine own_e ?_ | refine mkmap_b ?_ | refine lnk_a ?_); conv => whnf)))
      refine rest_i (mkSt [(0, .tape), (4, .ptr 4 0), (6, .ptr 6 0), (7, .ptr 7 0)] [(4, encPap p), (6, scr0), (7, [.int .i64 (p.code * 10000 + c), .int .i64 p.code, .int .i64 c, .int .i64 (1 + x), .int .i64 p.variant, .own 30 3 1 [[.int .i64 (100 * c + p.code)], [.int .i64 y]], .nil])] true) (le_mk ⟨rfl, rfl, rfl, rfl, trivial⟩ ⟨rfl, rfl, rfl, trivial⟩ rfl) ?_
      (conv => whnf); (repeat (first | (refine arith_i ⟨by omega, by omega⟩ ?_; conv => whnf) | (refine need_i (by first | omega | (simp only [List.length_append, List.length_cons, List.length_nil]; omega)) ?_; conv => whnf) | ((with_reducible first | refine branch_tt ?_ | refine branch_ff ?_); conv => whnf) | (with_reducible refine branch_not ?_) | ((with_reducible first | refine slc_e ?_ | refine callS_a ?_ | refine bld_a ?_ | refine own_e ?_ | refine mkmap_b ?_ | refine lnk_a ?_); conv => whnf)))
      refine loop_i (fun an : List Int => an.length ≤ p.parts.length) (fun an => mkSt [(0, .tape), (4, .ptr 4 0), (6, .ptr 6 0), (7, .ptr 7 0), (8, .int .i64 an.length)] [(4, encPap p), (6, scr0), (7, [.int .i64 (p.code * 10000 + c), .int .i64 p.code, .int .i64 c, .int .i64 (1 + x), .int .i64 p.variant, .own 30 3 1 [[.int .i64 (100 * c + p.code)], [.int .i64 y]], .own 200 3 1 (an.map encI)])] true) (fun an => p.parts.length - an.length) [] (Nat.zero_le _) (Le.trans (le_adoptBox 7 6 200 3 1 rfl rfl) (le_mk ⟨rfl, rfl, rfl, rfl, rfl, trivial⟩ ⟨rfl, rfl, rfl, trivial⟩ rfl)) ?_
      intro an ha
      have La : (an.map encI).length = an.length := List.length_map ..
      (conv => whnf); (repeat (first | (refine arith_i ⟨by omega, by omega⟩ ?_; conv => whnf) | (refine need_i (by first | omega | (simp only [List.length_append, List.length_cons, List.length_nil]; omega)) ?_; conv => whnf) | ((with_reducible first | refine branch_tt ?_ | refine branch_ff ?_); conv => whnf) | (with_reducible refine branch_not ?_) | ((with_reducible first | refine slc_e ?_ | refine callS_a ?_ | refine bld_a ?_ | refine own_e ?_ | refine mkmap_b ?_ | refine lnk_a ?_); conv => whnf)))
      refine branch_d (fun h => ?_) (fun h => ?_)
      · (conv => whnf); (repeat (first | (refine arith_i ⟨by omega, by omega⟩ ?_; conv => whnf) | (refine need_i (by first | omega | (simp only [List.length_append, List.length_cons, List.length_nil]; omega)) ?_; conv => whnf) | ((with_reducible first | refine branch_tt ?_ | refine branch_ff ?_); conv => whnf) | (with_reducible refine branch_not ?_) | ((with_reducible first | refine slc_e ?_ | refine callS_a ?_ | refine bld_a ?_ | refine own_e ?_ | refine mkmap_b ?_ | refine lnk_a ?_); conv => whnf)))
        refine idx_m (by omega) (by omega) fun t ht => ?_
        (conv => whnf); (repeat (first | (refine arith_i ⟨by omega, by omega⟩ ?_; conv => whnf) | (refine need_i (by first | omega | (simp only [List.length_append, List.length_cons, List.length_nil]; omega)) ?_; conv => whnf) | ((with_reducible first | refine branch_tt ?_ | refine branch_ff ?_); conv => whnf) | (with_reducible refine branch_not ?_) | ((with_reducible first | refine slc_e ?_ | refine callS_a ?_ | refine bld_a ?_ | refine own_e ?_ | refine mkmap_b ?_ | refine lnk_a ?_); conv => whnf)))
        refine branch_e (fun hk => ?_) (fun hk => ?_)
        · (conv => whnf); (repeat (first | (refine arith_i ⟨by omega, by omega⟩ ?_; conv => whnf) | (refine need_i (by first | omega | (simp only [List.length_append, List.length_cons, List.length_nil]; omega)) ?_; conv => whnf) | ((with_reducible first | refine branch_tt ?_ | refine branch_ff ?_); conv => whnf) | (with_reducible refine branch_not ?_) | ((with_reducible first | refine slc_e ?_ | refine callS_a ?_ | refine bld_a ?_ | refine own_e ?_ | refine mkmap_b ?_ | refine lnk_a ?_); conv => whnf)))
          refine idx_m (by omega) (by omega) fun t' ht' => ?_
          (conv => whnf); (repeat (first | (refine arith_i ⟨by omega, by omega⟩ ?_; conv => whnf) | (refine need_i (by first | omega | (simp only [List.length_append, List.length_cons, List.length_nil]; omega)) ?_; conv => whnf) | ((with_reducible first | refine branch_tt ?_ | refine branch_ff ?_); conv => whnf) | (with_reducible refine branch_not ?_) | ((with_reducible first | refine slc_e ?_ | refine callS_a ?_ | refine bld_a ?_ | refine own_e ?_ | refine mkmap_b ?_ | refine lnk_a ?_); conv => whnf)))
          refine call_i (pick_ok [t'.key, 0, 1, -1, -2] (by simp) (by simp)) fun r hr => ?_
          obtain ⟨u, rfl, -⟩ := hr
          (conv => whnf); (repeat (first | (refine arith_i ⟨by omega, by omega⟩ ?_; conv => whnf) | (refine need_i (by first | omega | (simp only [List.length_append, List.length_cons, List.length_nil]; omega)) ?_; conv => whnf) | ((with_reducible first | refine branch_tt ?_ | refine branch_ff ?_); conv => whnf) | (with_reducible refine branch_not ?_) | ((with_reducible first | refine slc_e ?_ | refine callS_a ?_ | refine bld_a ?_ | refine own_e ?_ | refine mkmap_b ?_ | refine lnk_a ?_); conv => whnf)))
          refine ⟨an ++ [u], by simp; omega, le_mk ⟨rfl, rfl, rfl, rfl, int_eq (by simp), trivial⟩ ⟨rfl, rfl, ?_, trivial⟩ rfl, by simp; omega⟩
          simp only [List.map_append, List.map_cons, List.map_nil]
          rfl
        · (conv => whnf); (repeat (first | (refine arith_i ⟨by omega, by omega⟩ ?_; conv => whnf) | (refine need_i (by first | omega | (simp only [List.length_append, List.length_cons, List.length_nil]; omega)) ?_; conv => whnf) | ((with_reducible first | refine branch_tt ?_ | refine branch_ff ?_); conv => whnf) | (with_reducible refine branch_not ?_) | ((with_reducible first | refine slc_e ?_ | refine callS_a ?_ | refine bld_a ?_ | refine own_e ?_ | refine mkmap_b ?_ | refine lnk_a ?_); conv => whnf)))
          refine ⟨an ++ [-1], by simp; omega, le_mk ⟨rfl, rfl, rfl, rfl, int_eq (by simp), trivial⟩ ⟨rfl, rfl, ?_, trivial⟩ rfl, by simp; omega⟩
          simp only [List.map_append, List.map_cons, List.map_nil]
          rfl
      · (conv => whnf); (repeat (first | (refine arith_i ⟨by omega, by omega⟩ ?_; conv => whnf) | (refine need_i (by first | omega | (simp only [List.length_append, List.length_cons, List.length_nil]; omega)) ?_; conv => whnf) | ((with_reducible first | refine branch_tt ?_ | refine branch_ff ?_); conv => whnf) | (with_reducible refine branch_not ?_) | ((with_reducible first | refine slc_e ?_ | refine callS_a ?_ | refine bld_a ?_ | refine own_e ?_ | refine mkmap_b ?_ | refine lnk_a ?_); conv => whnf)))
        exact ret_a (cs' := encR ⟨p.code * 10000 + c, p.code, c, 1 + x, p.variant, [100 * c + p.code, y], an⟩) ⟨rc_p rfl, rc_p rfl, rc_p rfl, rc_p rfl, rc_p rfl, rc_o, rc_o, trivial⟩ ⟨_, rfl, good_sc h1 h2 h4.2.1 hc (by omega), rfl, rfl, rfl, rfl⟩
  · (conv => whnf); (repeat (first | (refine arith_i ⟨by omega, by omega⟩ ?_; conv => whnf) | (refine need_i (by first | omega | (simp only [List.length_append, List.length_cons, List.length_nil]; omega)) ?_; conv => whnf) | ((with_reducible first | refine branch_tt ?_ | refine branch_ff ?_); conv => whnf) | (with_reducible refine branch_not ?_) | ((with_reducible first | refine slc_e ?_ | refine callS_a ?_ | refine bld_a ?_ | refine own_e ?_ | refine mkmap_b ?_ | refine lnk_a ?_); conv => whnf)))
    refine ⟨?_, trivial⟩
    (conv => whnf); (repeat (first | (refine arith_i ⟨by omega, by omega⟩ ?_; conv => whnf) | (refine need_i (by first | omega | (simp only [List.length_append, List.length_cons, List.length_nil]; omega)) ?_; conv => whnf) | ((with_reducible first | refine branch_tt ?_ | refine branch_ff ?_); conv => whnf) | (with_reducible refine branch_not ?_) | ((with_reducible first | refine slc_e ?_ | refine callS_a ?_ | refine bld_a ?_ | refine own_e ?_ | refine mkmap_b ?_ | refine lnk_a ?_); conv => whnf)))
    refine call_i (next_ok 3 (by omega)) fun r hr => ?_
    obtain ⟨x, rfl, -, hx⟩ := hr
    replace hx := hx (by omega)
    (conv => whnf); (repeat (first | (refine arith_i ⟨by omega, by omega⟩ ?_; conv => whnf) | (refine need_i (by first | omega | (simp only [List.length_append, List.length_cons, List.length_nil]; omega)) ?_; conv => whnf) | ((with_reducible first | refine branch_tt ?_ | refine branch_ff ?_); conv => whnf) | (with_reducible refine branch_not ?_) | ((with_reducible first | refine slc_e ?_ | refine callS_a ?_ | refine bld_a ?_ | refine own_e ?_ | refine mkmap_b ?_ | refine lnk_a ?_); conv => whnf)))
    refine ⟨?_, trivial⟩
    (conv => whnf); (repeat (first | (refine arith_i ⟨by omega, by omega⟩ ?_; conv => whnf) | (refine need_i (by first | omega | (simp only [List.length_append, List.length_cons, List.length_nil]; omega)) ?_; conv => whnf) | ((with_reducible first | refine branch_tt ?_ | refine branch_ff ?_); conv => whnf) | (with_reducible refine branch_not ?_) | ((with_reducible first | refine slc_e ?_ | refine callS_a ?_ | refine bld_a ?_ | refine own_e ?_ | refine mkmap_b ?_ | refine lnk_a ?_); conv => whnf)))
    refine call_i (next_ok 3 (by omega)) fun r hr => ?_
    obtain ⟨y, rfl, -, hy⟩ := hr
    replace hy := hy (by omega)
    (conv => whnf); (repeat (first | (refine arith_i ⟨by omega, by omega⟩ ?_; conv => whnf) | (refine need_i (by first | omega | (simp only [List.length_append, List.length_cons, List.length_nil]; omega)) ?_; conv => whnf) | ((with_reducible first | refine branch_tt ?_ | refine branch_ff ?_); conv => whnf) | (with_reducible refine branch_not ?_) | ((with_reducible first | refine slc_e ?_ | refine callS_a ?_ | refine bld_a ?_ | refine own_e ?_ | refine mkmap_b ?_ | refine lnk_a ?_); conv => whnf)))
    refine ⟨?_, trivial⟩
    (conv => whnf); (repeat (first | (refine arith_i ⟨by omega, by omega⟩ ?_; conv => whnf) | (refine need_i (by first | omega | (simp only [List.length_append, List.length_cons, List.length_nil]; omega)) ?_; conv => whnf) | ((with_reducible first | refine branch_tt ?_ | refine branch_ff ?_); conv => whnf) | (with_reducible refine branch_not ?_) | ((with_reducible first | refine slc_e ?_ | refine callS_a ?_ | refine bld_a ?_ | refine own_e ?_ | refine mkmap_b ?_ | refine lnk_a ?_); conv => whnf)))
    refine ⟨?_, trivial⟩
    (conv => whnf); (repeat (first | (refine arith_i ⟨by omega, by omega⟩ ?_; conv => whnf) | (refine need_i (by first | omega | (simp only [List.length_append, List.length_cons, List.length_nil]; omega)) ?_; conv => whnf) | ((with_reducible first | refine branch_tt ?_ | refine branch_ff ?_); conv => whnf) | (with_reducible refine branch_not ?_) | ((with_reducible first | refine slc_e ?_ | refine callS_a ?_ | refine bld_a ?_ | refine own_e ?_ | refine mkmap_b ?_ | refine lnk_a ?_); conv => whnf)))
    refine rest_i (mkSt [(0, .tape), (4, .ptr 4 0), (6, .ptr 6 0), (7, .ptr 7 0)] [(4, encPap p), (6, scr0), (7, [.int .i64 (p.code * 10000 + c), .int .i64 p.code, .int .i64 c, .int .i64 (1 + x), .int .i64 p.variant, .own 30 3 1 [[.int .i64 (100 * c + p.code)], [.int .i64 y]], .nil])] true) (le_mk ⟨rfl, rfl, rfl, rfl, trivial⟩ ⟨rfl, rfl, rfl, trivial⟩ rfl) ?_
    (conv => whnf); (repeat (first | (refine arith_i ⟨by omega, by omega⟩ ?_; conv => whnf) | (refine need_i (by first | omega | (simp only [List.length_append, List.length_cons, List.length_nil]; omega)) ?_; conv => whnf) | ((with_reducible first | refine branch_tt ?_ | refine branch_ff ?_); conv => whnf) | (with_reducible refine branch_not ?_) | ((with_reducible first | refine slc_e ?_ | refine callS_a ?_ | refine bld_a ?_ | refine own_e ?_ | refine mkmap_b ?_ | refine lnk_a ?_); conv => whnf)))
    refine loop_i (fun an : List Int => an.length ≤ p.parts.length) (fun an => mkSt [(0, .tape), (4, .ptr 4 0), (6, .ptr 6 0), (7, .ptr 7 0), (8, .int .i64 an.length)] [(4, encPap p), (6, scr0), (7, [.int .i64 (p.code * 10000 + c), .int .i64 p.code, .int .i64 c, .int .i64 (1 + x), .int .i64 p.variant, .own 30 3 1 [[.int .i64 (100 * c + p.code)], [.int .i64 y]], .own 200 3 1 (an.map encI)])] true) (fun an => p.parts.length - an.length) [] (Nat.zero_le _) (Le.trans (le_adoptBox 7 6 200 3 1 rfl rfl) (le_mk ⟨rfl, rfl, rfl, rfl, rfl, trivial⟩ ⟨rfl, rfl, rfl, trivial⟩ rfl)) ?_
    intro an ha
    have La : (an.map encI).length = an.length := List.length_map ..
    (conv => whnf); (repeat (first | (refine arith_i ⟨by omega, by omega⟩ ?_; conv => whnf) | (refine need_i (by first | omega | (simp only [List.length_append, List.length_cons, List.length_nil]; omega)) ?_; conv => whnf) | ((with_reducible first | refine branch_tt ?_ | refine branch_ff ?_); conv => whnf) | (with_reducible refine branch_not ?_) | ((with_reducible first | refine slc_e ?_ | refine callS_a ?_ | refine bld_a ?_ | refine own_e ?_ | refine mkmap_b ?_ | refine lnk_a ?_); conv => whnf)))
    refine branch_d (fun h => ?_) (fun h => ?_)
    · (conv => whnf); (repeat (first | (refine arith_i ⟨by omega, by omega⟩ ?_; conv => whnf) | (refine need_i (by first | omega | (simp only [List.length_append, List.length_cons, List.length_nil]; omega)) ?_; conv => whnf) | ((with_reducible first | refine branch_tt ?_ | refine branch_ff ?_); conv => whnf) | (with_reducible refine branch_not ?_) | ((with_reducible first | refine slc_e ?_ | refine callS_a ?_ | refine bld_a ?_ | refine own_e ?_ | refine mkmap_b ?_ | refine lnk_a ?_); conv => whnf)))
      refine idx_m (by omega) (by omega) fun t ht => ?_
      (conv => whnf); (repeat (first | (refine arith_i ⟨by omega, by omega⟩ ?_; conv => whnf) | (refine need_i (by first | omega | (simp only [List.length_append, List.length_cons, List.length_nil]; omega)) ?_; conv => whnf) | ((with_reducible first | refine branch_tt ?_ | refine branch_ff ?_); conv => whnf) | (with_reducible refine branch_not ?_) | ((with_reducible first | refine slc_e ?_ | refine callS_a ?_ | refine bld_a ?_ | refine own_e ?_ | refine mkmap_b ?_ | refine lnk_a ?_); conv => whnf)))
      refine branch_e (fun hk => ?_) (fun hk => ?_)
      · (conv => whnf); (repeat (first | (refine arith_i ⟨by omega, by omega⟩ ?_; conv => whnf) | (refine need_i (by first | omega | (simp only [List.length_append, List.length_cons, List.length_nil]; omega)) ?_; conv => whnf) | ((with_reducible first | refine branch_tt ?_ | refine branch_ff ?_); conv => whnf) | (with_reducible refine branch_not ?_) | ((with_reducible first | refine slc_e ?_ | refine callS_a ?_ | refine bld_a ?_ | refine own_e ?_ | refine mkmap_b ?_ | refine lnk_a ?_); conv => whnf)))
        refine idx_m (by omega) (by omega) fun t' ht' => ?_
        (conv => whnf); (repeat (first | (refine arith_i ⟨by omega, by omega⟩ ?_; conv => whnf) | (refine need_i (by first | omega | (simp only [List.length_append, List.length_cons, List.length_nil]; omega)) ?_; conv => whnf) | ((with_reducible first | refine branch_tt ?_ | refine branch_ff ?_); conv => whnf) | (with_reducible refine branch_not ?_) | ((with_reducible first | refine slc_e ?_ | refine callS_a ?_ | refine bld_a ?_ | refine own_e ?_ | refine mkmap_b ?_ | refine lnk_a ?_); conv => whnf)))
        refine call_i (pick_ok [t'.key, 0, 1, -1, -2] (by simp) (by simp)) fun r hr => ?_
        obtain ⟨u, rfl, -⟩ := hr
        (conv => whnf); (repeat (first | (refine arith_i ⟨by omega, by omega⟩ ?_; conv => whnf) | (refine need_i (by first | omega | (simp only [List.length_append, List.length_cons, List.length_nil]; omega)) ?_; conv => whnf) | ((with_reducible first | refine branch_tt ?_ | refine branch_ff ?_); conv => whnf) | (with_reducible refine branch_not ?_) | ((with_reducible first | refine slc_e ?_ | refine callS_a ?_ | refine bld_a ?_ | refine own_e ?_ | refine mkmap_b ?_ | refine lnk_a ?_); conv => whnf)))
        refine ⟨an ++ [u], by simp; omega, le_mk ⟨rfl, rfl, rfl, rfl, int_eq (by simp), trivial⟩ ⟨rfl, rfl, ?_, trivial⟩ rfl, by simp; omega⟩
        simp only [List.map_append, List.map_cons, List.map_nil]
        rfl
      · (conv => whnf); (repeat (first | (refine arith_i ⟨by omega, by omega⟩ ?_; conv => whnf) | (refine need_i (by first | omega | (simp only [List.length_append, List.length_cons, List.length_nil]; omega)) ?_; conv => whnf) | ((with_reducible first | refine branch_tt ?_ | refine branch_ff ?_); conv => whnf) | (with_reducible refine branch_not ?_) | ((with_reducible first | refine slc_e ?_ | refine callS_a ?_ | refine bld_a ?_ | refine own_e ?_ | refine mkmap_b ?_ | refine lnk_a ?_); conv => whnf)))
        refine ⟨an ++ [-1], by simp; omega, le_mk ⟨rfl, rfl, rfl, rfl, int_eq (by simp), trivial⟩ ⟨rfl, rfl, ?_, trivial⟩ rfl, by simp; omega⟩
        simp only [List.map_append, List.map_cons, List.map_nil]
        rfl
    · (conv => whnf); (repeat (first | (refine arith_i ⟨by omega, by omega⟩ ?_; conv => whnf) | (refine need_i (by first | omega | (simp only [List.length_append, List.length_cons, List.length_nil]; omega)) ?_; conv => whnf) | ((with_reducible first | refine branch_tt ?_ | refine branch_ff ?_); conv => whnf) | (with_reducible refine branch_not ?_) | ((with_reducible first | refine slc_e ?_ | refine callS_a ?_ | refine bld_a ?_ | refine own_e ?_ | refine mkmap_b ?_ | refine lnk_a ?_); conv => whnf)))
      exact ret_a (cs' := encR ⟨p.code * 10000 + c, p.code, c, 1 + x, p.variant, [100 * c + p.code, y], an⟩) ⟨rc_p rfl, rc_p rfl, rc_p rfl, rc_p rfl, rc_p rfl, rc_o, rc_o, trivial⟩ ⟨_, rfl, good_sc h1 h2 h4.2.1 hc (by omega), rfl, rfl, rfl, rfl⟩
end Go.Proofs.Ythgnomniboindaa
end

/- Layer 25: the generator of lists of scripts. -/
section
namespace Go.Proofs.Ythgnomniboindaa
set_option linter.unusedVariables false
set_option linter.unusedSimpArgs false
set_option linter.unnecessarySimpa false
set_option linter.unusedSectionVars false
set_option maxRecDepth 10000
open Go.RowKit

/-- Two pages; its paper is among the papers. -/
def PgS (ps : List Pap) (s : Scr) : Prop := (s.pages.length = 2 ∧ s.cand ≤ 100) ∧ ∃ p ∈ ps, p.code = s.paper ∧ p.variant = s.variant
structure FineS (ps : List Pap) (l : List Scr) (b : Int) : Prop where
  all : ∀ (k : Nat) (s : Scr), l[k]? = some s → (GoodS s ∧ PgS ps s) ∧ s.number < b
  asc : AscS l
theorem fine_sc {ps : List Pap} {l : List Scr} {b c : Int} (h : FineS ps l b) {s : Scr} (h1 : b ≤ s.number) (h2 : s.number < c) (h3 : GoodS s ∧ PgS ps s) : FineS ps (l ++ [s]) c := by
  refine ⟨fun k x hx => ?_, fun k x y hx hy => ?_⟩
  · rcases snoc_at hx with ⟨_, h'⟩ | ⟨_, rfl⟩
    · have := h.all k x h'; exact ⟨this.1, by omega⟩
    · exact ⟨h3, h2⟩
  · rcases snoc_at hy with ⟨hk, h'⟩ | ⟨hk, rfl⟩
    · rcases snoc_at hx with ⟨_, h''⟩ | ⟨hk', rfl⟩
      · exact h.asc k x y h'' h'
      · omega
    · rcases snoc_at hx with ⟨_, h''⟩ | ⟨hk', rfl⟩
      · have := (h.all k x h'').2; omega
      · omega
theorem FineS.up {ps : List Pap} {l : List Scr} {b c : Int} (h : FineS ps l b) (hc : b ≤ c) : FineS ps l c := ⟨fun k s hs => ⟨(h.all k s hs).1, by have := (h.all k s hs).2; omega⟩, h.asc⟩
def ScrsR (ps : List Pap) (r : AV) : Prop := ∃ l : List Scr, r = .own 0 48 7 (l.map encR) ∧ l.length ≤ 8 ∧ ScsOk l ∧ ∀ (k : Nat) (s : Scr), l[k]? = some s → PgS ps s
theorem scripts_ok (ps : List Pap) (hl : ps.length ≤ 3) (hall : ∀ (k : Nat) (p : Pap), ps[k]? = some p → OkPap p) : Good Try.prog TT true 28 [.tape, .lst 3 (ps.map encPap), .int .i64 4] (ScrsR ps) := by
  have L : (ps.map encPap).length = ps.length := List.length_map ..
  refine good_of mixed tabOk Try.func28 rfl rfl Try.ntmps28 Try.results28 rfl rfl ?_
  (conv => whnf); (repeat (first | (refine arith_i ⟨by omega, by omega⟩ ?_; conv => whnf) | (refine need_i (by first | omega | (simp only [List.length_append, List.length_cons, List.length_nil]; omega)) ?_; conv => whnf) | ((with_reducible first | refine branch_tt ?_ | refine branch_ff ?_); conv => whnf) | (with_reducible refine branch_not ?_) | ((with_reducible first | refine slc_e ?_ | refine callS_a ?_ | refine bld_a ?_ | refine own_e ?_ | refine mkmap_b ?_ | refine lnk_a ?_); conv => whnf)))
  refine loop_i (fun q : Nat × List Scr => q.1 ≤ 2 ∧ q.2.length ≤ 4 * q.1 ∧ FineS ps q.2 (q.1 * 10000 + 1)) (fun q => mkSt [(0, .tape), (1, .lst 3 (ps.map encPap)), (2, .int .i64 4), (7, .own 200 48 7 (q.2.map encR)), (8, .int .i64 q.1)] [] true) (fun q => 2 - q.1) (0, []) ⟨by decide, by decide, nofun, nofun⟩ (Le.trans (le_adopt 7 200 48 7 rfl) (le_mk ⟨rfl, rfl, rfl, rfl, rfl, trivial⟩ trivial rfl)) ?_
  rintro ⟨cd, out⟩ ⟨hcd, hout, hfi⟩
  replace hcd : cd ≤ 2 := hcd
  replace hout : out.length ≤ 4 * cd := hout
  replace hfi : FineS ps out (cd * 10000 + 1) := hfi
  (conv => whnf); (repeat (first | (refine arith_i ⟨by omega, by omega⟩ ?_; conv => whnf) | (refine need_i (by first | omega | (simp only [List.length_append, List.length_cons, List.length_nil]; omega)) ?_; conv => whnf) | ((with_reducible first | refine branch_tt ?_ | refine branch_ff ?_); conv => whnf) | (with_reducible refine branch_not ?_) | ((with_reducible first | refine slc_e ?_ | refine callS_a ?_ | refine bld_a ?_ | refine own_e ?_ | refine mkmap_b ?_ | refine lnk_a ?_); conv => whnf)))
  refine branch_d (fun h => ?_) (fun h => ?_)
  · replace h : (cd : Int) < 2 := h
    (conv => whnf); (repeat (first | (refine arith_i ⟨by omega, by omega⟩ ?_; conv => whnf) | (refine need_i (by first | omega | (simp only [List.length_append, List.length_cons, List.length_nil]; omega)) ?_; conv => whnf) | ((with_reducible first | refine branch_tt ?_ | refine branch_ff ?_); conv => whnf) | (with_reducible refine branch_not ?_) | ((with_reducible first | refine slc_e ?_ | refine callS_a ?_ | refine bld_a ?_ | refine own_e ?_ | refine mkmap_b ?_ | refine lnk_a ?_); conv => whnf)))
    refine loop_i (fun q : Nat × List Pap => q.1 ≤ ps.length ∧ q.2.length ≤ q.1 ∧ ∀ (k : Nat) (p : Pap), q.2[k]? = some p → (OkPap p ∧ p ∈ ps) ∧ p.code = cd) (fun q => mkSt [(0, .tape), (1, .lst 3 (ps.map encPap)), (2, .int .i64 4), (7, .own 200 48 7 (out.map encR)), (8, .int .i64 cd), (9, .own 201 97 3 (q.2.map encPap)), (10, .int .i64 q.1)] [] true) (fun q => ps.length - q.1) (0, []) ⟨Nat.zero_le _, by decide, nofun⟩ (Le.trans (le_adopt 9 201 97 3 rfl) (le_mk ⟨rfl, rfl, rfl, rfl, rfl, rfl, rfl, trivial⟩ trivial rfl)) ?_
    rintro ⟨i, ls⟩ ⟨hi, hls, hok⟩
    replace hi : i ≤ ps.length := hi
    replace hls : ls.length ≤ i := hls
    replace hok : ∀ (k : Nat) (p : Pap), ls[k]? = some p → (OkPap p ∧ p ∈ ps) ∧ p.code = cd := hok
    have Ls : (ls.map encPap).length = ls.length := List.length_map ..
    (conv => whnf); (repeat (first | (refine arith_i ⟨by omega, by omega⟩ ?_; conv => whnf) | (refine need_i (by first | omega | (simp only [List.length_append, List.length_cons, List.length_nil]; omega)) ?_; conv => whnf) | ((with_reducible first | refine branch_tt ?_ | refine branch_ff ?_); conv => whnf) | (with_reducible refine branch_not ?_) | ((with_reducible first | refine slc_e ?_ | refine callS_a ?_ | refine bld_a ?_ | refine own_e ?_ | refine mkmap_b ?_ | refine lnk_a ?_); conv => whnf)))
    refine branch_d (fun g => ?_) (fun g => ?_)
    · replace g : (i : Int) < (ps.map encPap).length := g
      (conv => whnf); (repeat (first | (refine arith_i ⟨by omega, by omega⟩ ?_; conv => whnf) | (refine need_i (by first | omega | (simp only [List.length_append, List.length_cons, List.length_nil]; omega)) ?_; conv => whnf) | ((with_reducible first | refine branch_tt ?_ | refine branch_ff ?_); conv => whnf) | (with_reducible refine branch_not ?_) | ((with_reducible first | refine slc_e ?_ | refine callS_a ?_ | refine bld_a ?_ | refine own_e ?_ | refine mkmap_b ?_ | refine lnk_a ?_); conv => whnf)))
      refine idx_m (by omega) (by omega) fun p hp => ?_
      (conv => whnf); (repeat (first | (refine arith_i ⟨by omega, by omega⟩ ?_; conv => whnf) | (refine need_i (by first | omega | (simp only [List.length_append, List.length_cons, List.length_nil]; omega)) ?_; conv => whnf) | ((with_reducible first | refine branch_tt ?_ | refine branch_ff ?_); conv => whnf) | (with_reducible refine branch_not ?_) | ((with_reducible first | refine slc_e ?_ | refine callS_a ?_ | refine bld_a ?_ | refine own_e ?_ | refine mkmap_b ?_ | refine lnk_a ?_); conv => whnf)))
      refine branch_e (fun he => ?_) (fun he => ?_)
      · (conv => whnf); (repeat (first | (refine arith_i ⟨by omega, by omega⟩ ?_; conv => whnf) | (refine need_i (by first | omega | (simp only [List.length_append, List.length_cons, List.length_nil]; omega)) ?_; conv => whnf) | ((with_reducible first | refine branch_tt ?_ | refine branch_ff ?_); conv => whnf) | (with_reducible refine branch_not ?_) | ((with_reducible first | refine slc_e ?_ | refine callS_a ?_ | refine bld_a ?_ | refine own_e ?_ | refine mkmap_b ?_ | refine lnk_a ?_); conv => whnf)))
        refine idx_m (by omega) (by omega) fun p' hp' => ?_
        (conv => whnf); (repeat (first | (refine arith_i ⟨by omega, by omega⟩ ?_; conv => whnf) | (refine need_i (by first | omega | (simp only [List.length_append, List.length_cons, List.length_nil]; omega)) ?_; conv => whnf) | ((with_reducible first | refine branch_tt ?_ | refine branch_ff ?_); conv => whnf) | (with_reducible refine branch_not ?_) | ((with_reducible first | refine slc_e ?_ | refine callS_a ?_ | refine bld_a ?_ | refine own_e ?_ | refine mkmap_b ?_ | refine lnk_a ?_); conv => whnf)))
        refine ⟨(i + 1, ls ++ [p']), ⟨by show i + 1 ≤ ps.length; omega, by show (ls ++ _).length ≤ i + 1; simp; omega, fun k x hx => ?_⟩, le_mk ⟨rfl, rfl, rfl, rfl, rfl, ?_, rfl, trivial⟩ trivial rfl, by show ps.length - (i + 1) < ps.length - i; omega⟩
        · rcases snoc_at hx with ⟨_, h'⟩ | ⟨_, rfl⟩
          · exact hok k x h'
          · exact ⟨⟨hall _ _ hp', List.mem_of_getElem? hp'⟩, by rw [hp] at hp'; injection hp' with hp'; rw [← hp']; exact he⟩
        · simp only [List.map_append, List.map_cons, List.map_nil]
          rfl
      · (conv => whnf); (repeat (first | (refine arith_i ⟨by omega, by omega⟩ ?_; conv => whnf) | (refine need_i (by first | omega | (simp only [List.length_append, List.length_cons, List.length_nil]; omega)) ?_; conv => whnf) | ((with_reducible first | refine branch_tt ?_ | refine branch_ff ?_); conv => whnf) | (with_reducible refine branch_not ?_) | ((with_reducible first | refine slc_e ?_ | refine callS_a ?_ | refine bld_a ?_ | refine own_e ?_ | refine mkmap_b ?_ | refine lnk_a ?_); conv => whnf)))
        exact ⟨(i + 1, ls), ⟨by show i + 1 ≤ ps.length; omega, by show ls.length ≤ i + 1; omega, hok⟩, le_mk ⟨rfl, rfl, rfl, rfl, rfl, rfl, rfl, trivial⟩ trivial rfl, by show ps.length - (i + 1) < ps.length - i; omega⟩
    · have hls3 : ls.length ≤ 3 := by omega
      clear g
      (conv => whnf); (repeat (first | (refine arith_i ⟨by omega, by omega⟩ ?_; conv => whnf) | (refine need_i (by first | omega | (simp only [List.length_append, List.length_cons, List.length_nil]; omega)) ?_; conv => whnf) | ((with_reducible first | refine branch_tt ?_ | refine branch_ff ?_); conv => whnf) | (with_reducible refine branch_not ?_) | ((with_reducible first | refine slc_e ?_ | refine callS_a ?_ | refine bld_a ?_ | refine own_e ?_ | refine mkmap_b ?_ | refine lnk_a ?_); conv => whnf)))
      refine loop_i (fun q : Nat × List Scr => q.1 ≤ 4 ∧ q.2.length ≤ 4 * cd + q.1 ∧ FineS ps q.2 (cd * 10000 + 1 + q.1)) (fun q => mkSt [(0, .tape), (1, .lst 3 (ps.map encPap)), (2, .int .i64 4), (7, .own 200 48 7 (q.2.map encR)), (8, .int .i64 cd), (9, .own 201 97 3 (ls.map encPap)), (11, .int .i64 (1 + q.1))] [] true) (fun q => 4 - q.1) (0, out) ⟨by show 0 ≤ 4; omega, by show out.length ≤ 4 * cd + 0; omega, hfi.up (by show _ ≤ (cd : Int) * 10000 + 1 + ((0 : Nat) : Int); omega)⟩ (le_mk ⟨rfl, rfl, rfl, rfl, rfl, rfl, rfl, trivial⟩ trivial rfl) ?_
      rintro ⟨c, ot⟩ ⟨hc, hot, hfo⟩
      replace hc : c ≤ 4 := hc
      replace hot : ot.length ≤ 4 * cd + c := hot
      replace hfo : FineS ps ot (cd * 10000 + 1 + c) := hfo
      have Lo : (ot.map encR).length = ot.length := List.length_map ..
      have e1 : ((c, ot).1 : Nat) = c := rfl
      (conv => whnf); (repeat (first | (refine arith_i ⟨by omega, by omega⟩ ?_; conv => whnf) | (refine need_i (by first | omega | (simp only [List.length_append, List.length_cons, List.length_nil]; omega)) ?_; conv => whnf) | ((with_reducible first | refine branch_tt ?_ | refine branch_ff ?_); conv => whnf) | (with_reducible refine branch_not ?_) | ((with_reducible first | refine slc_e ?_ | refine callS_a ?_ | refine bld_a ?_ | refine own_e ?_ | refine mkmap_b ?_ | refine lnk_a ?_); conv => whnf)))
      refine branch_d (fun g => ?_) (fun g => ?_)
      · replace g : 1 + (c : Int) ≤ 4 := g
        (conv => whnf); (repeat (first | (refine arith_i ⟨by omega, by omega⟩ ?_; conv => whnf) | (refine need_i (by first | omega | (simp only [List.length_append, List.length_cons, List.length_nil]; omega)) ?_; conv => whnf) | ((with_reducible first | refine branch_tt ?_ | refine branch_ff ?_); conv => whnf) | (with_reducible refine branch_not ?_) | ((with_reducible first | refine slc_e ?_ | refine callS_a ?_ | refine bld_a ?_ | refine own_e ?_ | refine mkmap_b ?_ | refine lnk_a ?_); conv => whnf)))
        refine branch_d (fun g2 => ?_) (fun g2 => ?_)
        · (conv => whnf); (repeat (first | (refine arith_i ⟨by omega, by omega⟩ ?_; conv => whnf) | (refine need_i (by first | omega | (simp only [List.length_append, List.length_cons, List.length_nil]; omega)) ?_; conv => whnf) | ((with_reducible first | refine branch_tt ?_ | refine branch_ff ?_); conv => whnf) | (with_reducible refine branch_not ?_) | ((with_reducible first | refine slc_e ?_ | refine callS_a ?_ | refine bld_a ?_ | refine own_e ?_ | refine mkmap_b ?_ | refine lnk_a ?_); conv => whnf)))
          refine call_i (next_ok 5 (by omega)) fun r hr => ?_
          obtain ⟨x, rfl, -, hx⟩ := hr
          (conv => whnf); (repeat (first | (refine arith_i ⟨by omega, by omega⟩ ?_; conv => whnf) | (refine need_i (by first | omega | (simp only [List.length_append, List.length_cons, List.length_nil]; omega)) ?_; conv => whnf) | ((with_reducible first | refine branch_tt ?_ | refine branch_ff ?_); conv => whnf) | (with_reducible refine branch_not ?_) | ((with_reducible first | refine slc_e ?_ | refine callS_a ?_ | refine bld_a ?_ | refine own_e ?_ | refine mkmap_b ?_ | refine lnk_a ?_); conv => whnf)))
          refine branch_d (fun g3 => ?_) (fun g3 => ?_)
          · (conv => whnf); (repeat (first | (refine arith_i ⟨by omega, by omega⟩ ?_; conv => whnf) | (refine need_i (by first | omega | (simp only [List.length_append, List.length_cons, List.length_nil]; omega)) ?_; conv => whnf) | ((with_reducible first | refine branch_tt ?_ | refine branch_ff ?_); conv => whnf) | (with_reducible refine branch_not ?_) | ((with_reducible first | refine slc_e ?_ | refine callS_a ?_ | refine bld_a ?_ | refine own_e ?_ | refine mkmap_b ?_ | refine lnk_a ?_); conv => whnf)))
            refine call_i (next_ok _ (by omega)) fun r hr => ?_
            obtain ⟨y, rfl, -, hy⟩ := hr
            replace hy := hy (by omega)
            (conv => whnf); (repeat (first | (refine arith_i ⟨by omega, by omega⟩ ?_; conv => whnf) | (refine need_i (by first | omega | (simp only [List.length_append, List.length_cons, List.length_nil]; omega)) ?_; conv => whnf) | ((with_reducible first | refine branch_tt ?_ | refine branch_ff ?_); conv => whnf) | (with_reducible refine branch_not ?_) | ((with_reducible first | refine slc_e ?_ | refine callS_a ?_ | refine bld_a ?_ | refine own_e ?_ | refine mkmap_b ?_ | refine lnk_a ?_); conv => whnf)))
            refine idx_m (by omega) (by omega) fun p hp => ?_
            (conv => whnf); (repeat (first | (refine arith_i ⟨by omega, by omega⟩ ?_; conv => whnf) | (refine need_i (by first | omega | (simp only [List.length_append, List.length_cons, List.length_nil]; omega)) ?_; conv => whnf) | ((with_reducible first | refine branch_tt ?_ | refine branch_ff ?_); conv => whnf) | (with_reducible refine branch_not ?_) | ((with_reducible first | refine slc_e ?_ | refine callS_a ?_ | refine bld_a ?_ | refine own_e ?_ | refine mkmap_b ?_ | refine lnk_a ?_); conv => whnf)))
            refine call_i (script_ok p (1 + c) (hok _ p hp).1.1 (by omega)) fun r hr => ?_
            obtain ⟨s, rfl, hsG, hsP, hsp, hsc, hsv⟩ := hr
            have hnum := hsG.number
            have hpc := (hok _ p hp).2
            (conv => whnf); (repeat (first | (refine arith_i ⟨by omega, by omega⟩ ?_; conv => whnf) | (refine need_i (by first | omega | (simp only [List.length_append, List.length_cons, List.length_nil]; omega)) ?_; conv => whnf) | ((with_reducible first | refine branch_tt ?_ | refine branch_ff ?_); conv => whnf) | (with_reducible refine branch_not ?_) | ((with_reducible first | refine slc_e ?_ | refine callS_a ?_ | refine bld_a ?_ | refine own_e ?_ | refine mkmap_b ?_ | refine lnk_a ?_); conv => whnf)))
            refine ⟨(c + 1, ot ++ [s]), ⟨by show c + 1 ≤ 4; omega, by show (ot ++ _).length ≤ 4 * cd + (c + 1); simp; omega, fine_sc hfo (by omega) (by show s.number < (cd : Int) * 10000 + 1 + ((c + 1 : Nat) : Int); omega) ⟨hsG, ⟨hsP, by omega⟩, p, (hok _ p hp).1.2, hsp.symm, hsv.symm⟩⟩, le_mk ⟨rfl, rfl, rfl, ?_, rfl, rfl, int_eq (by show (1 + (c : Int)) + 1 = 1 + ((c + 1 : Nat) : Int); omega), trivial⟩ trivial rfl, by show 4 - (c + 1) < 4 - c; omega⟩
            simp only [List.map_append, List.map_cons, List.map_nil]
            rfl
          · (conv => whnf); (repeat (first | (refine arith_i ⟨by omega, by omega⟩ ?_; conv => whnf) | (refine need_i (by first | omega | (simp only [List.length_append, List.length_cons, List.length_nil]; omega)) ?_; conv => whnf) | ((with_reducible first | refine branch_tt ?_ | refine branch_ff ?_); conv => whnf) | (with_reducible refine branch_not ?_) | ((with_reducible first | refine slc_e ?_ | refine callS_a ?_ | refine bld_a ?_ | refine own_e ?_ | refine mkmap_b ?_ | refine lnk_a ?_); conv => whnf)))
            exact ⟨(c + 1, ot), ⟨by show c + 1 ≤ 4; omega, by show ot.length ≤ 4 * cd + (c + 1); omega, hfo.up (by show _ ≤ (cd : Int) * 10000 + 1 + ((c + 1 : Nat) : Int); omega)⟩, le_mk ⟨rfl, rfl, rfl, rfl, rfl, rfl, int_eq (by show (1 + (c : Int)) + 1 = 1 + ((c + 1 : Nat) : Int); omega), trivial⟩ trivial rfl, by show 4 - (c + 1) < 4 - c; omega⟩
        · (conv => whnf); (repeat (first | (refine arith_i ⟨by omega, by omega⟩ ?_; conv => whnf) | (refine need_i (by first | omega | (simp only [List.length_append, List.length_cons, List.length_nil]; omega)) ?_; conv => whnf) | ((with_reducible first | refine branch_tt ?_ | refine branch_ff ?_); conv => whnf) | (with_reducible refine branch_not ?_) | ((with_reducible first | refine slc_e ?_ | refine callS_a ?_ | refine bld_a ?_ | refine own_e ?_ | refine mkmap_b ?_ | refine lnk_a ?_); conv => whnf)))
          exact ⟨(cd + 1, ot), ⟨by show cd + 1 ≤ 2; omega, by show ot.length ≤ 4 * (cd + 1); omega, hfo.up (by show _ ≤ ((cd + 1 : Nat) : Int) * 10000 + 1; omega)⟩, le_mk ⟨rfl, rfl, rfl, rfl, rfl, trivial⟩ trivial rfl, by show 2 - (cd + 1) < 2 - cd; omega⟩
      · (conv => whnf); (repeat (first | (refine arith_i ⟨by omega, by omega⟩ ?_; conv => whnf) | (refine need_i (by first | omega | (simp only [List.length_append, List.length_cons, List.length_nil]; omega)) ?_; conv => whnf) | ((with_reducible first | refine branch_tt ?_ | refine branch_ff ?_); conv => whnf) | (with_reducible refine branch_not ?_) | ((with_reducible first | refine slc_e ?_ | refine callS_a ?_ | refine bld_a ?_ | refine own_e ?_ | refine mkmap_b ?_ | refine lnk_a ?_); conv => whnf)))
        exact ⟨(cd + 1, ot), ⟨by show cd + 1 ≤ 2; omega, by show ot.length ≤ 4 * (cd + 1); omega, hfo.up (by show _ ≤ ((cd + 1 : Nat) : Int) * 10000 + 1; omega)⟩, le_mk ⟨rfl, rfl, rfl, rfl, rfl, trivial⟩ trivial rfl, by show 2 - (cd + 1) < 2 - cd; omega⟩
  · (conv => whnf); (repeat (first | (refine arith_i ⟨by omega, by omega⟩ ?_; conv => whnf) | (refine need_i (by first | omega | (simp only [List.length_append, List.length_cons, List.length_nil]; omega)) ?_; conv => whnf) | ((with_reducible first | refine branch_tt ?_ | refine branch_ff ?_); conv => whnf) | (with_reducible refine branch_not ?_) | ((with_reducible first | refine slc_e ?_ | refine callS_a ?_ | refine bld_a ?_ | refine own_e ?_ | refine mkmap_b ?_ | refine lnk_a ?_); conv => whnf)))
    exact ret_o ⟨out, rfl, by omega, ⟨by omega, fun k x hx => ⟨(hfi.all k x hx).1.1, by rw [(hfi.all k x hx).1.2.1.1]; omega⟩, hfi.asc⟩, fun k x hx => (hfi.all k x hx).1.2⟩
theorem light_ok (xs : List Int) : Good Try.prog TT false 4 [ints xs] (· = .bool (decide (xs.length ≤ 600))) := by
  have L : (xs.map encI).length = xs.length := List.length_map ..
  refine good_of mixed tabOk Try.func4 rfl rfl Try.ntmps4 Try.results4 rfl rfl ?_
  (conv => whnf); (repeat (first | (refine arith_i ⟨by omega, by omega⟩ ?_; conv => whnf) | (refine need_i (by first | omega | (simp only [List.length_append, List.length_cons, List.length_nil]; omega)) ?_; conv => whnf) | ((with_reducible first | refine branch_tt ?_ | refine branch_ff ?_); conv => whnf) | (with_reducible refine branch_not ?_) | ((with_reducible first | refine slc_e ?_ | refine callS_a ?_ | refine bld_a ?_ | refine own_e ?_ | refine mkmap_b ?_ | refine lnk_a ?_); conv => whnf)))
  exact ret_p rfl (bool_eq (by rw [L]; rw [decide_eq_decide]; omega))
end Go.Proofs.Ythgnomniboindaa
end

/- Layer 25: Load, Markers and isSet: of the program and of the reference. -/
section
namespace Go.Proofs.Ythgnomniboindaa
set_option linter.unusedVariables false
set_option linter.unusedSimpArgs false
set_option linter.unnecessarySimpa false
set_option linter.unusedSectionVars false
set_option maxRecDepth 10000
open Go.RowKit
def tasksV (ts : List (Int × Int)) : AV := .lst 2 (ts.map encT)
end Go.Proofs.Ythgnomniboindaa
end

/- Layer 25: the search of a script by its number; the order of tasks: of the program. -/
section
namespace Go.Proofs.Ythgnomniboindaa
set_option linter.unusedVariables false
set_option linter.unusedSimpArgs false
set_option linter.unnecessarySimpa false
set_option linter.unusedSectionVars false
set_option maxRecDepth 10000
open Go.RowKit
def cmpI (a b : Int) : Int := if a < b then -1 else if b < a then 1 else 0
theorem isNaN_ok (a : Int) : Good Try.prog TT false 69 [.int .i64 a] (· = .bool false) := by
  refine good_of mixed tabOk Try.func69 rfl rfl Try.ntmps69 Try.results69 rfl rfl ?_
  (conv => whnf); (repeat' (first | (refine arith_i ⟨by omega, by omega⟩ ?_; conv => whnf) | (refine arith_u ⟨by omega, by omega⟩ ?_; conv => whnf) | (refine arith_8 ⟨by omega, by omega⟩ ?_; conv => whnf) | (refine need_i (by first | omega | (simp only [List.length_cons, List.length_nil]; omega) | (simp only [List.length_append, List.length_cons, List.length_nil, List.length_map, List.length_replicate, List.length_modify]; omega)) ?_; conv => whnf) | ((with_reducible first | refine branch_tt ?_ | refine branch_ff ?_); conv => whnf) | (with_reducible refine branch_not ?_) | ((with_reducible first | refine slc_e ?_ | refine callS_a ?_ | refine bld_a ?_ | refine own_e ?_ | refine mkmap_b ?_ | refine lnk_a ?_); conv => whnf) | ((with_reducible first | refine branch_d (fun hq => ?_) (fun hq => ?_) | refine branch_e (fun hq => ?_) (fun hq => ?_) | refine branch_n (fun hq => ?_) (fun hq => ?_) | refine branch_i (fun hq => ?_) (fun hq => ?_)) <;> (try (exfalso; omega)) <;> (conv => whnf))))
  all_goals exact ret_p rfl (bool_eq (by simp))
theorem compare_ok (a b : Int) : Good Try.prog TT false 59 [.int .i64 a, .int .i64 b] (· = .int .i64 (cmpI a b)) := by
  refine good_of mixed tabOk Try.func59 rfl rfl Try.ntmps59 Try.results59 rfl rfl ?_
  (conv => whnf); (repeat' (first | (refine arith_i ⟨by omega, by omega⟩ ?_; conv => whnf) | (refine arith_u ⟨by omega, by omega⟩ ?_; conv => whnf) | (refine arith_8 ⟨by omega, by omega⟩ ?_; conv => whnf) | (refine need_i (by first | omega | (simp only [List.length_cons, List.length_nil]; omega) | (simp only [List.length_append, List.length_cons, List.length_nil, List.length_map, List.length_replicate, List.length_modify]; omega)) ?_; conv => whnf) | ((with_reducible first | refine branch_tt ?_ | refine branch_ff ?_); conv => whnf) | (with_reducible refine branch_not ?_) | ((refine call_e (isNaN_ok a) ?_); conv => whnf) | ((refine call_e (isNaN_ok b) ?_); conv => whnf) | ((with_reducible first | refine slc_e ?_ | refine callS_a ?_ | refine bld_a ?_ | refine own_e ?_ | refine mkmap_b ?_ | refine lnk_a ?_); conv => whnf) | ((with_reducible first | refine branch_d (fun hq => ?_) (fun hq => ?_) | refine branch_e (fun hq => ?_) (fun hq => ?_) | refine branch_n (fun hq => ?_) (fun hq => ?_) | refine branch_i (fun hq => ?_) (fun hq => ?_)) <;> (try (exfalso; omega)) <;> (conv => whnf))))
  all_goals first | exact ret_p rfl (int_eq (by unfold cmpI; first | (rw [if_pos (by omega)]) | (rw [if_neg (by omega), if_pos (by omega)]) | (rw [if_neg (by omega), if_neg (by omega)])))
def findS (s : List Scr) (n : Int) : Option Nat := s.findIdx? fun x => x.number == n
def IdxR (s : List Scr) (n : Int) (r : AV) : Prop := match findS s n with
  | some i => r = .tup [.int .i64 i, .bool true]
  | none => ∃ i : Nat, r = .tup [.int .i64 i, .bool false]
theorem cmp_lt {a b : Int} : cmpI a b < 0 ↔ a < b := by unfold cmpI; split <;> (try split) <;> omega
theorem cmp_eq {a b : Int} : cmpI a b = 0 ↔ a = b := by unfold cmpI; split <;> (try split) <;> omega
theorem asc_lt {s : List Scr} (h : AscS s) {i k : Nat} {a b : Scr} (ha : s[i]? = some a) (hb : s[k]? = some b) (hik : i < k) : a.number < b.number := by
  obtain ⟨d, rfl⟩ : ∃ d, k = i + d + 1 := ⟨k - i - 1, by omega⟩
  clear hik
  induction d generalizing b with
  | zero => exact h i a b ha hb
  | succ d ih =>
    obtain ⟨c, hc⟩ : ∃ c, s[i + d + 1]? = some c := ⟨_, List.getElem?_eq_getElem (by have := (List.getElem?_eq_some_iff.1 hb).1; omega)⟩
    have h1 := ih hc
    have h2 := h (i + d + 1) c b hc hb
    omega
theorem idx_some {s : List Scr} {n : Int} {i : Nat} {x : Scr} (hlo : ∀ (k : Nat) (x : Scr), k < i → s[k]? = some x → x.number < n) (hx : s[i]? = some x) (hn : x.number = n) : findS s n = some i := by
  obtain ⟨h1, h2⟩ := List.getElem?_eq_some_iff.1 hx
  rw [findS, List.findIdx?_eq_some_iff_getElem]
  refine ⟨h1, by rw [h2]; simp [hn], fun k hk => ?_⟩
  have := hlo k _ hk (List.getElem?_eq_getElem (by omega))
  simp; omega
theorem find_none {s : List Scr} {n : Int} {i : Nat} (hA : AscS s) (hlo : ∀ (k : Nat) (x : Scr), k < i → s[k]? = some x → x.number < n) (hhi : ∀ (k : Nat) (x : Scr), i ≤ k → s[k]? = some x → n ≤ x.number) (hx : ∀ x, s[i]? = some x → x.number ≠ n) : findS s n = none := by
  rw [findS, List.findIdx?_eq_none_iff]
  intro x hm
  obtain ⟨k, hk⟩ := List.getElem?_of_mem hm
  rcases Nat.lt_or_ge k i with h | h
  · have := hlo k x h hk; simp; omega
  · rcases Nat.lt_or_ge i k with h2 | h2
    · obtain ⟨y, hy⟩ : ∃ y, s[i]? = some y := ⟨_, List.getElem?_eq_getElem (by have := (List.getElem?_eq_some_iff.1 hk).1; omega)⟩
      have h3 := asc_lt hA hy hk h2
      have h4 := hhi i y (Nat.le_refl _) hy
      simp; omega
    · obtain rfl : k = i := by omega
      have := hx x hk; simp; omega
theorem idx_none {s : List Scr} {n : Int} {i : Nat} (hA : AscS s) (hlo : ∀ (k : Nat) (x : Scr), k < i → s[k]? = some x → x.number < n) (hhi : ∀ (k : Nat) (x : Scr), i ≤ k → s[k]? = some x → n ≤ x.number) (hx : ∀ x, s[i]? = some x → x.number ≠ n) : IdxR s n (.tup [.int .i64 i, .bool false]) := by
  unfold IdxR; rw [find_none hA hlo hhi hx]; exact ⟨i, rfl⟩
theorem half_eq (i j : Nat) : ((i : Int) + j).fdiv (2 ^ min (Int.toNat 1) (IntKind.bits .u64)) = (((i + j) / 2 : Nat) : Int) := by
  show ((i : Int) + j).fdiv 2 = _
  rw [Int.fdiv_eq_ediv_of_nonneg _ (by omega)]; omega
end Go.Proofs.Ythgnomniboindaa
end

/- Layer 25: Check of the program. -/
section
namespace Go.Proofs.Ythgnomniboindaa
set_option linter.unusedVariables false
set_option linter.unusedSimpArgs false
set_option linter.unnecessarySimpa false
set_option linter.unusedSectionVars false
set_option maxRecDepth 10000
open Go.RowKit
theorem findS_at {s : List Scr} {n : Int} {p : Nat} (h : findS s n = some p) : ∃ x, s[p]? = some x ∧ x.number = n := by
  rw [findS, List.findIdx?_eq_some_iff_getElem] at h
  obtain ⟨h1, h2, -⟩ := h
  exact ⟨s[p], List.getElem?_eq_getElem h1, by simpa using h2⟩
end Go.Proofs.Ythgnomniboindaa
end

/- Layer 26: the indices of common scripts: of the program. -/
section
namespace Go.Proofs.Ythgnomniboindaa
set_option linter.unusedVariables false
set_option linter.unusedSimpArgs false
set_option linter.unnecessarySimpa false
set_option linter.unusedSectionVars false
set_option maxRecDepth 10000
open Go.RowKit
def mulF (k : Int) (j : Nat) : List Int := (List.range j).map fun t : Nat => (t : Int) * k
def cntI (n : Nat) (k : Int) : Nat := (n + k.toNat - 1) / k.toNat
def idxsF (n : Nat) (k : Int) : List Int := if k < 1 then [] else mulF k (cntI n k)
theorem mulF_len {k : Int} {j : Nat} : (mulF k j).length = j := by simp [mulF]
theorem mulF_next {k : Int} {j : Nat} : mulF k (j + 1) = mulF k j ++ [(j : Int) * k] := by unfold mulF; rw [List.range_succ]; simp
theorem cntI_lt {n j : Nat} {k : Int} (hk : 1 ≤ k) : j < cntI n k ↔ (j : Int) * k < n := by
  obtain ⟨K, rfl⟩ : ∃ K : Nat, k = K := ⟨k.toNat, by omega⟩
  have hK : 1 ≤ K := by omega
  unfold cntI
  rw [Int.toNat_natCast, ← Int.natCast_mul, Int.ofNat_lt]
  constructor
  · intro h
    have h1 := Nat.mul_le_mul_right K (show j + 1 ≤ (n + K - 1) / K from h)
    have h2 := Nat.div_mul_le_self (n + K - 1) K
    rw [Nat.add_mul] at h1
    omega
  · intro h
    refine (Nat.le_div_iff_mul_le (by omega)).2 ?_
    rw [show j.succ * K = j * K + K by rw [Nat.succ_mul]]
    omega
theorem cntI_le {n : Nat} {k : Int} (hk : 1 ≤ k) : cntI n k ≤ n := by
  refine Nat.le_of_not_lt fun h => ?_
  have h1 := (cntI_lt hk).1 h
  have h2 : (n : Int) * 1 ≤ (n : Int) * k := Int.mul_le_mul_of_nonneg_left hk (by omega)
  omega
theorem indices_ok (n : Nat) (k : Int) (hn : n ≤ 60) (hk64 : k ≤ 9223372036854775807) : Good Try.prog TT false 36 [.int .i64 n, .int .i64 k] (· = .own 0 3 1 ((idxsF n k).map encI)) := by
  by_cases hk : k < 1
  · rw [idxsF, if_pos hk]
    refine good_of mixed tabOk Try.func36 rfl rfl Try.ntmps36 Try.results36 rfl rfl ?_
    (conv => whnf); (repeat' (first | (refine arith_i ⟨by omega, by omega⟩ ?_; conv => whnf) | (refine arith_u ⟨by omega, by omega⟩ ?_; conv => whnf) | (refine arith_8 ⟨by omega, by omega⟩ ?_; conv => whnf) | (refine need_i (by first | omega | (simp only [List.length_cons, List.length_nil]; omega) | (simp only [List.length_append, List.length_cons, List.length_nil, List.length_map, List.length_replicate, List.length_modify]; omega)) ?_; conv => whnf) | ((with_reducible first | refine branch_tt ?_ | refine branch_ff ?_); conv => whnf) | (with_reducible refine branch_not ?_) | ((with_reducible first | refine slc_e ?_ | refine callS_a ?_ | refine bld_a ?_ | refine own_e ?_ | refine mkmap_b ?_ | refine lnk_a ?_); conv => whnf) | ((with_reducible first | refine branch_d (fun hq => ?_) (fun hq => ?_) | refine branch_e (fun hq => ?_) (fun hq => ?_) | refine branch_n (fun hq => ?_) (fun hq => ?_) | refine branch_i (fun hq => ?_) (fun hq => ?_)) <;> (try (exfalso; omega)) <;> (conv => whnf))))
    exact ret_n rfl
  · rw [idxsF, if_neg hk]
    have hc := cntI_le (n := n) (show 1 ≤ k by omega)
    refine good_of mixed tabOk Try.func36 rfl rfl Try.ntmps36 Try.results36 rfl rfl ?_
    (conv => whnf); (repeat' (first | (refine arith_i ⟨by omega, by omega⟩ ?_; conv => whnf) | (refine arith_u ⟨by omega, by omega⟩ ?_; conv => whnf) | (refine arith_8 ⟨by omega, by omega⟩ ?_; conv => whnf) | (refine need_i (by first | omega | (simp only [List.length_cons, List.length_nil]; omega) | (simp only [List.length_append, List.length_cons, List.length_nil, List.length_map, List.length_replicate, List.length_modify]; omega)) ?_; conv => whnf) | ((with_reducible first | refine branch_tt ?_ | refine branch_ff ?_); conv => whnf) | (with_reducible refine branch_not ?_) | ((with_reducible first | refine slc_e ?_ | refine callS_a ?_ | refine bld_a ?_ | refine own_e ?_ | refine mkmap_b ?_ | refine lnk_a ?_); conv => whnf) | ((with_reducible first | refine branch_d (fun hq => ?_) (fun hq => ?_) | refine branch_e (fun hq => ?_) (fun hq => ?_) | refine branch_n (fun hq => ?_) (fun hq => ?_) | refine branch_i (fun hq => ?_) (fun hq => ?_)) <;> (try (exfalso; omega)) <;> (conv => whnf))))
    refine loop_i (fun j : Nat => j ≤ cntI n k) (fun j => mkSt [(0, .int .i64 n), (1, .int .i64 k), (5, .own 200 3 1 ((mulF k j).map encI)), (6, .int .i64 ((j : Int) * k))] [] false) (fun j => cntI n k - j) 0 (Nat.zero_le _) (Le.trans (le_adopt 5 200 3 1 rfl) (le_mk ⟨rfl, rfl, rfl, int_eq (by simp), trivial⟩ trivial rfl)) ?_
    intro j hj
    have L : ((mulF k j).map encI).length = j := by rw [List.length_map, mulF_len]
    have h1 := cntI_lt (n := n) (j := j) (show 1 ≤ k by omega)
    have h2 := cntI_lt (n := n) (j := j + 1) (show 1 ≤ k by omega)
    have e2 : ((j + 1 : Nat) : Int) * k = (j : Int) * k + k := by rw [Int.natCast_add, Int.add_mul]; omega
    have h0 : 0 ≤ (j : Int) * k := Int.mul_nonneg (by omega) (by omega)
    have e1 : (mulF k (j + 1)).map encI = (mulF k j).map encI ++ [[.int .i64 ((j : Int) * k)]] := by rw [mulF_next, List.map_append]; rfl
    rw [e2] at h2
    rcases Nat.lt_or_ge j (cntI n k) with hjl | hjl
    · have h3 := h1.1 hjl
      (conv => whnf); (repeat' (first | (refine arith_i ⟨by omega, by omega⟩ ?_; conv => whnf) | (refine arith_u ⟨by omega, by omega⟩ ?_; conv => whnf) | (refine arith_8 ⟨by omega, by omega⟩ ?_; conv => whnf) | (refine need_i (by first | omega | (simp only [List.length_cons, List.length_nil]; omega) | (simp only [List.length_append, List.length_cons, List.length_nil, List.length_map, List.length_replicate, List.length_modify]; omega)) ?_; conv => whnf) | ((with_reducible first | refine branch_tt ?_ | refine branch_ff ?_); conv => whnf) | (with_reducible refine branch_not ?_) | ((with_reducible first | refine slc_e ?_ | refine callS_a ?_ | refine bld_a ?_ | refine own_e ?_ | refine mkmap_b ?_ | refine lnk_a ?_); conv => whnf) | ((with_reducible first | refine branch_d (fun hq => ?_) (fun hq => ?_) | refine branch_e (fun hq => ?_) (fun hq => ?_) | refine branch_n (fun hq => ?_) (fun hq => ?_) | refine branch_i (fun hq => ?_) (fun hq => ?_)) <;> (try (exfalso; omega)) <;> (conv => whnf))))
      · have : cntI n k = j + 1 := by omega
        rw [this, e1]
        exact ret_o rfl
      · exact ⟨j + 1, by omega, le_mk ⟨rfl, rfl, by rw [e1]; rfl, int_eq (by rw [e2]), trivial⟩ trivial rfl, by omega⟩
    · have : j = cntI n k := by omega
      have h3 : ¬ (j : Int) * k < n := fun h => by have := h1.2 h; omega
      (conv => whnf); (repeat' (first | (refine arith_i ⟨by omega, by omega⟩ ?_; conv => whnf) | (refine arith_u ⟨by omega, by omega⟩ ?_; conv => whnf) | (refine arith_8 ⟨by omega, by omega⟩ ?_; conv => whnf) | (refine need_i (by first | omega | (simp only [List.length_cons, List.length_nil]; omega) | (simp only [List.length_append, List.length_cons, List.length_nil, List.length_map, List.length_replicate, List.length_modify]; omega)) ?_; conv => whnf) | ((with_reducible first | refine branch_tt ?_ | refine branch_ff ?_); conv => whnf) | (with_reducible refine branch_not ?_) | ((with_reducible first | refine slc_e ?_ | refine callS_a ?_ | refine bld_a ?_ | refine own_e ?_ | refine mkmap_b ?_ | refine lnk_a ?_); conv => whnf) | ((with_reducible first | refine branch_d (fun hq => ?_) (fun hq => ?_) | refine branch_e (fun hq => ?_) (fun hq => ?_) | refine branch_n (fun hq => ?_) (fun hq => ?_) | refine branch_i (fun hq => ?_) (fun hq => ?_)) <;> (try (exfalso; omega)) <;> (conv => whnf))))
      rw [← this]
      exact ret_o rfl
theorem idxs_at {n : Nat} {k : Int} {t : Nat} {x : Int} (h : (idxsF n k)[t]? = some x) : 0 ≤ x ∧ x < n := by
  unfold idxsF at h
  split at h
  · simp at h
  · next hk =>
    unfold mulF at h
    rw [List.getElem?_map, Option.map_eq_some_iff] at h
    obtain ⟨j, hj, rfl⟩ := h
    obtain ⟨h1, h2⟩ := List.getElem?_eq_some_iff.1 hj
    simp at h1 h2; subst h2
    exact ⟨Int.mul_nonneg (by omega) (by omega), (cntI_lt (by omega)).1 h1⟩
theorem idxs_len {n : Nat} {k : Int} : (idxsF n k).length ≤ n := by
  unfold idxsF; split
  · simp
  · rw [mulF_len]; exact cntI_le (by omega)
def commF (s : List Scr) (k : Int) : List Int := (idxsF s.length k).map fun i => numF s i.toNat
set_option maxHeartbeats 4000000 in
theorem common_ok (s : List Scr) (k : Int) (hs : ScsOk s) (hk64 : k ≤ 9223372036854775807) : Good Try.prog TT false 16 [scrsV s, .int .i64 k] (· = .own 0 3 1 ((commF s k).map encI)) := by
  have LS : (s.map encR).length = s.length := List.length_map ..
  have h60 := hs.len
  have LI := idxs_len (n := s.length) (k := k)
  have L : ((idxsF s.length k).map encI).length = (idxsF s.length k).length := List.length_map ..
  unfold commF
  have hat : ∀ (t : Nat) (x : Int), (idxsF s.length k)[t]? = some x → 0 ≤ x ∧ x < s.length := fun t x h => idxs_at h
  have hI := indices_ok s.length k h60 hk64
  generalize idxsF s.length k = xs at hat LI L hI ⊢
  refine good_of mixed tabOk Try.func16 rfl rfl Try.ntmps16 Try.results16 rfl rfl ?_
  (conv => whnf); (repeat' (first | (refine arith_i ⟨by omega, by omega⟩ ?_; conv => whnf) | (refine arith_u ⟨by omega, by omega⟩ ?_; conv => whnf) | (refine arith_8 ⟨by omega, by omega⟩ ?_; conv => whnf) | (refine need_i (by first | omega | (simp only [List.length_cons, List.length_nil]; omega) | (simp only [List.length_append, List.length_cons, List.length_nil, List.length_map, List.length_replicate, List.length_modify]; omega)) ?_; conv => whnf) | ((with_reducible first | refine branch_tt ?_ | refine branch_ff ?_); conv => whnf) | (with_reducible refine branch_not ?_) | (((rw [LS]; refine call_e hI ?_)); conv => whnf) | ((with_reducible first | refine slc_e ?_ | refine callS_a ?_ | refine bld_a ?_ | refine own_e ?_ | refine mkmap_b ?_ | refine lnk_a ?_); conv => whnf) | ((with_reducible first | refine branch_d (fun hq => ?_) (fun hq => ?_) | refine branch_e (fun hq => ?_) (fun hq => ?_) | refine branch_n (fun hq => ?_) (fun hq => ?_) | refine branch_i (fun hq => ?_) (fun hq => ?_)) <;> (try (exfalso; omega)) <;> (conv => whnf))))
  refine loop_i (fun t : Nat => t ≤ xs.length) (fun t => mkSt [(0, scrsV s), (5, .own 200 3 1 (((xs.take t).map fun i => numF s i.toNat).map encI)), (11, .own 11 3 1 (xs.map encI)), (12, .int .i64 xs.length), (13, .int .i64 t)] [] false) (fun t => xs.length - t) 0 (Nat.zero_le _) (Le.trans (le_adopt 5 200 3 1 rfl) (le_mk ⟨rfl, rfl, rfl, int_eq (by rw [L]), rfl, trivial⟩ trivial rfl)) ?_
  intro t ht
  have LT : (((xs.take t).map fun i => numF s i.toNat).map encI).length = t := by simp; omega
  rcases Nat.lt_or_ge t xs.length with htl | htl
  · obtain ⟨x, hx⟩ : ∃ x, xs[t]? = some x := ⟨_, List.getElem?_eq_getElem htl⟩
    obtain ⟨hx0, hx1⟩ := hat t x hx
    obtain ⟨y, hy⟩ : ∃ y, s[x.toNat]? = some y := ⟨_, List.getElem?_eq_getElem (by omega)⟩
    have e1 : ((xs.take (t + 1)).map fun i => numF s i.toNat).map encI = ((xs.take t).map fun i => numF s i.toNat).map encI ++ [[.int .i64 y.number]] := by
      rw [List.take_add_one, hx, List.map_append, List.map_append, ← numF_at hy]; rfl
    (conv => whnf); (repeat' (first | (refine arith_i ⟨by omega, by omega⟩ ?_; conv => whnf) | (refine arith_u ⟨by omega, by omega⟩ ?_; conv => whnf) | (refine arith_8 ⟨by omega, by omega⟩ ?_; conv => whnf) | (refine need_i (by first | omega | (simp only [List.length_cons, List.length_nil]; omega) | (simp only [List.length_append, List.length_cons, List.length_nil, List.length_map, List.length_replicate, List.length_modify]; omega)) ?_; conv => whnf) | ((with_reducible first | refine branch_tt ?_ | refine branch_ff ?_); conv => whnf) | (with_reducible refine branch_not ?_) | ((refine idx_cs hx ?_); conv => whnf) | ((refine idx_ms hx0 hy ?_); conv => whnf) | ((with_reducible first | refine slc_e ?_ | refine callS_a ?_ | refine bld_a ?_ | refine own_e ?_ | refine mkmap_b ?_ | refine lnk_a ?_); conv => whnf) | ((with_reducible first | refine branch_d (fun hq => ?_) (fun hq => ?_) | refine branch_e (fun hq => ?_) (fun hq => ?_) | refine branch_n (fun hq => ?_) (fun hq => ?_) | refine branch_i (fun hq => ?_) (fun hq => ?_)) <;> (try (exfalso; omega)) <;> (conv => whnf))))
    exact ⟨t + 1, by omega, by rw [e1]; exact (le_mk (by repeat' (first | exact trivial | rfl | apply And.intro)) (by repeat' (first | exact trivial | rfl | apply And.intro)) rfl), by omega⟩
  · (conv => whnf); (repeat' (first | (refine arith_i ⟨by omega, by omega⟩ ?_; conv => whnf) | (refine arith_u ⟨by omega, by omega⟩ ?_; conv => whnf) | (refine arith_8 ⟨by omega, by omega⟩ ?_; conv => whnf) | (refine need_i (by first | omega | (simp only [List.length_cons, List.length_nil]; omega) | (simp only [List.length_append, List.length_cons, List.length_nil, List.length_map, List.length_replicate, List.length_modify]; omega)) ?_; conv => whnf) | ((with_reducible first | refine branch_tt ?_ | refine branch_ff ?_); conv => whnf) | (with_reducible refine branch_not ?_) | ((with_reducible first | refine slc_e ?_ | refine callS_a ?_ | refine bld_a ?_ | refine own_e ?_ | refine mkmap_b ?_ | refine lnk_a ?_); conv => whnf) | ((with_reducible first | refine branch_d (fun hq => ?_) (fun hq => ?_) | refine branch_e (fun hq => ?_) (fun hq => ?_) | refine branch_n (fun hq => ?_) (fun hq => ?_) | refine branch_i (fun hq => ?_) (fun hq => ?_)) <;> (try (exfalso; omega)) <;> (conv => whnf))))
    rw [List.take_of_length_le htl]
    exact ret_o rfl
end Go.Proofs.Ythgnomniboindaa
end

/- Layer 25: a script by its number, a marker by the number, who may mark: of the reference. -/
section
namespace Go.Proofs.Ythgnomniboindaa
set_option linter.unusedVariables false
set_option linter.unusedSimpArgs false
set_option linter.unnecessarySimpa false
set_option linter.unusedSectionVars false
set_option maxRecDepth 10000
open Go.RowKit
def scr0R : AV := .agg (encR ⟨0, 0, 0, 0, 0, [], []⟩)
def ScriptR (s : List Scr) (n : Int) (r : AV) : Prop := match findS s n with
  | some i => ∃ x, s[i]? = some x ∧ r = .tup [.agg (encR x), .bool true]
  | none => r = .tup [scr0R, .bool false]
theorem rScript_ok (s : List Scr) (n : Int) (hs : ScsOk s) : Good Try.prog TT false 45 [scrsV s, .int .i64 n] (ScriptR s n) := by
  have LS : (s.map encR).length = s.length := List.length_map ..
  have h60 := hs.len
  refine good_of mixed tabOk Try.func45 rfl rfl Try.ntmps45 Try.results45 rfl rfl ?_
  (conv => whnf); (repeat' (first | (refine arith_i ⟨by omega, by omega⟩ ?_; conv => whnf) | (refine arith_u ⟨by omega, by omega⟩ ?_; conv => whnf) | (refine arith_8 ⟨by omega, by omega⟩ ?_; conv => whnf) | (refine need_i (by first | omega | (simp only [List.length_cons, List.length_nil]; omega) | (simp only [List.length_append, List.length_cons, List.length_nil, List.length_map, List.length_replicate, List.length_modify]; omega)) ?_; conv => whnf) | ((with_reducible first | refine branch_tt ?_ | refine branch_ff ?_); conv => whnf) | (with_reducible refine branch_not ?_) | ((with_reducible first | refine slc_e ?_ | refine callS_a ?_ | refine bld_a ?_ | refine own_e ?_ | refine mkmap_b ?_ | refine lnk_a ?_); conv => whnf) | ((with_reducible first | refine branch_d (fun hq => ?_) (fun hq => ?_) | refine branch_e (fun hq => ?_) (fun hq => ?_) | refine branch_n (fun hq => ?_) (fun hq => ?_) | refine branch_i (fun hq => ?_) (fun hq => ?_)) <;> (try (exfalso; omega)) <;> (conv => whnf))))
  refine loop_i (fun k : Nat => k ≤ s.length ∧ ∀ (i : Nat) (x : Scr), i < k → s[i]? = some x → x.number ≠ n) (fun k => mkSt [(0, scrsV s), (1, .int .i64 n), (4, .ptr 4 0), (6, .int .i64 k)] [(4, [.int .i64 0, .int .i64 0, .int .i64 0, .int .i64 0, .int .i64 0, .nil, .nil])] false) (fun k => s.length - k) 0 ⟨Nat.zero_le _, fun i x h => absurd h (by omega)⟩ (le_mk ⟨rfl, rfl, rfl, rfl, trivial⟩ ⟨rfl, trivial⟩ rfl) ?_
  rintro k ⟨hk, hall⟩
  rcases Nat.lt_or_ge k s.length with hkl | hkl
  · obtain ⟨x, hx⟩ : ∃ x, s[k]? = some x := ⟨_, List.getElem?_eq_getElem hkl⟩
    (conv => whnf); (repeat' (first | (refine arith_i ⟨by omega, by omega⟩ ?_; conv => whnf) | (refine arith_u ⟨by omega, by omega⟩ ?_; conv => whnf) | (refine arith_8 ⟨by omega, by omega⟩ ?_; conv => whnf) | (refine need_i (by first | omega | (simp only [List.length_cons, List.length_nil]; omega) | (simp only [List.length_append, List.length_cons, List.length_nil, List.length_map, List.length_replicate, List.length_modify]; omega)) ?_; conv => whnf) | ((with_reducible first | refine branch_tt ?_ | refine branch_ff ?_); conv => whnf) | (with_reducible refine branch_not ?_) | ((refine idx_cs hx ?_); conv => whnf) | ((with_reducible first | refine slc_e ?_ | refine callS_a ?_ | refine bld_a ?_ | refine own_e ?_ | refine mkmap_b ?_ | refine lnk_a ?_); conv => whnf) | ((with_reducible first | refine branch_d (fun hq => ?_) (fun hq => ?_) | refine branch_e (fun hq => ?_) (fun hq => ?_) | refine branch_n (fun hq => ?_) (fun hq => ?_) | refine branch_i (fun hq => ?_) (fun hq => ?_)) <;> (try (exfalso; omega)) <;> (conv => whnf))))
    · have e : findS s n = some k := by
        rw [findS, List.findIdx?_eq_some_iff_getElem]
        obtain ⟨h1, h2⟩ := List.getElem?_eq_some_iff.1 hx
        exact ⟨h1, by rw [h2]; simpa using hq, fun j hj => by simpa using hall j _ hj (List.getElem?_eq_getElem (by omega))⟩
      exact ret_t (rs := [.agg (encR x), .bool true]) ⟨.inr ⟨_, _, rfl, rfl, rc_p rfl, rc_p rfl, rc_p rfl, rc_p rfl, rc_p rfl, rc_p rfl, rc_p rfl, trivial⟩, (rc_p rfl).g, trivial⟩ (by unfold ScriptR; rw [e]; exact ⟨x, hx, rfl⟩)
    · refine ⟨k + 1, ⟨by omega, fun i y hi hy => ?_⟩, (le_mk (by repeat' (first | exact trivial | rfl | apply And.intro)) (by repeat' (first | exact trivial | rfl | apply And.intro)) rfl), by omega⟩
      rcases Nat.lt_or_ge i k with h' | h'
      · exact hall i y h' hy
      · obtain rfl : i = k := by omega
        rw [hx] at hy; injection hy with hy; rw [← hy]; assumption
  · (conv => whnf); (repeat' (first | (refine arith_i ⟨by omega, by omega⟩ ?_; conv => whnf) | (refine arith_u ⟨by omega, by omega⟩ ?_; conv => whnf) | (refine arith_8 ⟨by omega, by omega⟩ ?_; conv => whnf) | (refine need_i (by first | omega | (simp only [List.length_cons, List.length_nil]; omega) | (simp only [List.length_append, List.length_cons, List.length_nil, List.length_map, List.length_replicate, List.length_modify]; omega)) ?_; conv => whnf) | ((with_reducible first | refine branch_tt ?_ | refine branch_ff ?_); conv => whnf) | (with_reducible refine branch_not ?_) | ((with_reducible first | refine slc_e ?_ | refine callS_a ?_ | refine bld_a ?_ | refine own_e ?_ | refine mkmap_b ?_ | refine lnk_a ?_); conv => whnf) | ((with_reducible first | refine branch_d (fun hq => ?_) (fun hq => ?_) | refine branch_e (fun hq => ?_) (fun hq => ?_) | refine branch_n (fun hq => ?_) (fun hq => ?_) | refine branch_i (fun hq => ?_) (fun hq => ?_)) <;> (try (exfalso; omega)) <;> (conv => whnf))))
    have e : findS s n = none := by
      rw [findS, List.findIdx?_eq_none_iff]
      intro x hm
      obtain ⟨i, hi⟩ := List.getElem?_of_mem hm
      have := hall i x (by have := (List.getElem?_eq_some_iff.1 hi).1; omega) hi
      simpa using this
    exact ret_t (rs := [scr0R, .bool false]) ⟨.inr ⟨_, _, rfl, rfl, rc_p rfl, rc_p rfl, rc_p rfl, rc_p rfl, rc_p rfl, rc_n, rc_n, trivial⟩, (rc_p rfl).g, trivial⟩ (by unfold ScriptR; rw [e])
theorem rFind_ok (l : List Mrk) (id : Int) (hl : MksOk l) : Good Try.prog TT false 67 [mrksV l, .int .i64 id] (· = foundV (findM l id)) := by
  have LL : (l.map encM).length = l.length := List.length_map ..
  have h16 := hl.len
  refine good_of mixed tabOk Try.func67 rfl rfl Try.ntmps67 Try.results67 rfl rfl ?_
  (conv => whnf); (repeat' (first | (refine arith_i ⟨by omega, by omega⟩ ?_; conv => whnf) | (refine arith_u ⟨by omega, by omega⟩ ?_; conv => whnf) | (refine arith_8 ⟨by omega, by omega⟩ ?_; conv => whnf) | (refine need_i (by first | omega | (simp only [List.length_cons, List.length_nil]; omega) | (simp only [List.length_append, List.length_cons, List.length_nil, List.length_map, List.length_replicate, List.length_modify]; omega)) ?_; conv => whnf) | ((with_reducible first | refine branch_tt ?_ | refine branch_ff ?_); conv => whnf) | (with_reducible refine branch_not ?_) | ((with_reducible first | refine slc_e ?_ | refine callS_a ?_ | refine bld_a ?_ | refine own_e ?_ | refine mkmap_b ?_ | refine lnk_a ?_); conv => whnf) | ((with_reducible first | refine branch_d (fun hq => ?_) (fun hq => ?_) | refine branch_e (fun hq => ?_) (fun hq => ?_) | refine branch_n (fun hq => ?_) (fun hq => ?_) | refine branch_i (fun hq => ?_) (fun hq => ?_)) <;> (try (exfalso; omega)) <;> (conv => whnf))))
  refine loop_i (fun k : Nat => k ≤ l.length ∧ ∀ (i : Nat) (x : Mrk), i < k → l[i]? = some x → x.id ≠ id) (fun k => mkSt [(0, mrksV l), (1, .int .i64 id), (4, .ptr 4 0), (6, .int .i64 k)] [(4, [.int .i64 0, .int .i64 0, .int .i64 0, .int .i64 0, .nil])] false) (fun k => l.length - k) 0 ⟨Nat.zero_le _, fun i x h => absurd h (by omega)⟩ (le_mk ⟨rfl, rfl, rfl, rfl, trivial⟩ ⟨rfl, trivial⟩ rfl) ?_
  rintro k ⟨hk, hall⟩
  rcases Nat.lt_or_ge k l.length with hkl | hkl
  · obtain ⟨x, hx⟩ : ∃ x, l[k]? = some x := ⟨_, List.getElem?_eq_getElem hkl⟩
    (conv => whnf); (repeat' (first | (refine arith_i ⟨by omega, by omega⟩ ?_; conv => whnf) | (refine arith_u ⟨by omega, by omega⟩ ?_; conv => whnf) | (refine arith_8 ⟨by omega, by omega⟩ ?_; conv => whnf) | (refine need_i (by first | omega | (simp only [List.length_cons, List.length_nil]; omega) | (simp only [List.length_append, List.length_cons, List.length_nil, List.length_map, List.length_replicate, List.length_modify]; omega)) ?_; conv => whnf) | ((with_reducible first | refine branch_tt ?_ | refine branch_ff ?_); conv => whnf) | (with_reducible refine branch_not ?_) | ((refine idx_cs hx ?_); conv => whnf) | ((with_reducible first | refine slc_e ?_ | refine callS_a ?_ | refine bld_a ?_ | refine own_e ?_ | refine mkmap_b ?_ | refine lnk_a ?_); conv => whnf) | ((with_reducible first | refine branch_d (fun hq => ?_) (fun hq => ?_) | refine branch_e (fun hq => ?_) (fun hq => ?_) | refine branch_n (fun hq => ?_) (fun hq => ?_) | refine branch_i (fun hq => ?_) (fun hq => ?_)) <;> (try (exfalso; omega)) <;> (conv => whnf))))
    · have e : findM l id = some x := by
        unfold findM
        rw [List.find?_eq_some_iff_getElem]
        obtain ⟨h1, h2⟩ := List.getElem?_eq_some_iff.1 hx
        exact ⟨by simpa using hq, k, h1, h2, fun j hj => by simpa using hall j _ hj (List.getElem?_eq_getElem (by omega))⟩
      exact ret_t (rs := [.agg (encM x), .bool true]) ⟨.inr ⟨_, _, rfl, rfl, rc_p rfl, rc_p rfl, rc_p rfl, rc_p rfl, rc_p rfl, trivial⟩, (rc_p rfl).g, trivial⟩ (by rw [e]; rfl)
    · refine ⟨k + 1, ⟨by omega, fun i y hi hy => ?_⟩, (le_mk (by repeat' (first | exact trivial | rfl | apply And.intro)) (by repeat' (first | exact trivial | rfl | apply And.intro)) rfl), by omega⟩
      rcases Nat.lt_or_ge i k with h' | h'
      · exact hall i y h' hy
      · obtain rfl : i = k := by omega
        rw [hx] at hy; injection hy with hy; rw [← hy]; assumption
  · (conv => whnf); (repeat' (first | (refine arith_i ⟨by omega, by omega⟩ ?_; conv => whnf) | (refine arith_u ⟨by omega, by omega⟩ ?_; conv => whnf) | (refine arith_8 ⟨by omega, by omega⟩ ?_; conv => whnf) | (refine need_i (by first | omega | (simp only [List.length_cons, List.length_nil]; omega) | (simp only [List.length_append, List.length_cons, List.length_nil, List.length_map, List.length_replicate, List.length_modify]; omega)) ?_; conv => whnf) | ((with_reducible first | refine branch_tt ?_ | refine branch_ff ?_); conv => whnf) | (with_reducible refine branch_not ?_) | ((with_reducible first | refine slc_e ?_ | refine callS_a ?_ | refine bld_a ?_ | refine own_e ?_ | refine mkmap_b ?_ | refine lnk_a ?_); conv => whnf) | ((with_reducible first | refine branch_d (fun hq => ?_) (fun hq => ?_) | refine branch_e (fun hq => ?_) (fun hq => ?_) | refine branch_n (fun hq => ?_) (fun hq => ?_) | refine branch_i (fun hq => ?_) (fun hq => ?_)) <;> (try (exfalso; omega)) <;> (conv => whnf))))
    have e : findM l id = none := by
      unfold findM
      rw [List.find?_eq_none]
      intro x hm
      obtain ⟨i, hi⟩ := List.getElem?_of_mem hm
      have := hall i x (by have := (List.getElem?_eq_some_iff.1 hi).1; omega) hi
      simpa using this
    exact ret_t (rs := [.agg (encM ⟨0, 0, 0, 0, []⟩), .bool false]) ⟨.inr ⟨_, _, rfl, rfl, rc_p rfl, rc_p rfl, rc_p rfl, rc_p rfl, rc_n, trivial⟩, (rc_p rfl).g, trivial⟩ (by rw [e]; rfl)
theorem rElig_ok (l : List Mrk) (id : Int) (s : Scr) (hl : MksOk l) : Good Try.prog TT false 50 [mrksV l, .int .i64 id, .agg (encR s)] (· = .bool (eligB l id s)) := by
  cases hf : findM l id with
  | none =>
    have e : eligB l id s = false := by rw [eligB, hf]
    rw [e]
    refine good_of mixed tabOk Try.func50 rfl rfl Try.ntmps50 Try.results50 rfl rfl ?_
    (conv => whnf); (repeat' (first | (refine arith_i ⟨by omega, by omega⟩ ?_; conv => whnf) | (refine arith_u ⟨by omega, by omega⟩ ?_; conv => whnf) | (refine arith_8 ⟨by omega, by omega⟩ ?_; conv => whnf) | (refine need_i (by first | omega | (simp only [List.length_cons, List.length_nil]; omega) | (simp only [List.length_append, List.length_cons, List.length_nil, List.length_map, List.length_replicate, List.length_modify]; omega)) ?_; conv => whnf) | ((with_reducible first | refine branch_tt ?_ | refine branch_ff ?_); conv => whnf) | (with_reducible refine branch_not ?_) | ((refine call_e ((rFind_ok l id hl).mono fun r h => (by rw [h, hf]; rfl : r = .tup [.agg (encM ⟨0, 0, 0, 0, []⟩), .bool false])) ?_); conv => whnf) | ((with_reducible first | refine slc_e ?_ | refine callS_a ?_ | refine bld_a ?_ | refine own_e ?_ | refine mkmap_b ?_ | refine lnk_a ?_); conv => whnf) | ((with_reducible first | refine branch_d (fun hq => ?_) (fun hq => ?_) | refine branch_e (fun hq => ?_) (fun hq => ?_) | refine branch_n (fun hq => ?_) (fun hq => ?_) | refine branch_i (fun hq => ?_) (fun hq => ?_)) <;> (try (exfalso; omega)) <;> (conv => whnf))))
    all_goals exact ret_p rfl rfl
  | some m =>
    have e : eligB l id s = mayB m s := by rw [eligB, hf]
    have hp : m.papers.length ≤ 1000 := (hl.all _ m (List.getElem?_of_mem (List.mem_of_find?_eq_some hf)).choose_spec).len
    rw [e]
    refine good_of mixed tabOk Try.func50 rfl rfl Try.ntmps50 Try.results50 rfl rfl ?_
    (conv => whnf); (repeat' (first | (refine arith_i ⟨by omega, by omega⟩ ?_; conv => whnf) | (refine arith_u ⟨by omega, by omega⟩ ?_; conv => whnf) | (refine arith_8 ⟨by omega, by omega⟩ ?_; conv => whnf) | (refine need_i (by first | omega | (simp only [List.length_cons, List.length_nil]; omega) | (simp only [List.length_append, List.length_cons, List.length_nil, List.length_map, List.length_replicate, List.length_modify]; omega)) ?_; conv => whnf) | ((with_reducible first | refine branch_tt ?_ | refine branch_ff ?_); conv => whnf) | (with_reducible refine branch_not ?_) | ((refine call_e ((rFind_ok l id hl).mono fun r h => (by rw [h, hf]; rfl : r = .tup [.agg (encM m), .bool true])) ?_); conv => whnf) | ((refine call_e (fits_ok m s hp) ?_); conv => whnf) | ((with_reducible first | refine slc_e ?_ | refine callS_a ?_ | refine bld_a ?_ | refine own_e ?_ | refine mkmap_b ?_ | refine lnk_a ?_); conv => whnf) | ((with_reducible first | refine branch_d (fun hq => ?_) (fun hq => ?_) | refine branch_e (fun hq => ?_) (fun hq => ?_) | refine branch_n (fun hq => ?_) (fun hq => ?_) | refine branch_i (fun hq => ?_) (fun hq => ?_)) <;> (try (exfalso; omega)) <;> (conv => whnf))))
    all_goals exact ret_p rfl rfl
end Go.Proofs.Ythgnomniboindaa
end
