/- Layer 24 by the interpreter: the generator of lists of scripts. -/
import Derived.Test.YtdoemjphffnmaaaGL24h
namespace Go.Proofs.Ytdoemjphffnmaaa
set_option linter.unusedVariables false
set_option linter.unusedSimpArgs false
set_option linter.unnecessarySimpa false
set_option linter.unusedSectionVars false
set_option maxRecDepth 10000
open Go.RowKit

def ScrsR (r : AV) : Prop := ∃ l : List Scr, r = .own 0 36 7 (l.map encR) ∧ l.length ≤ 100
theorem scripts_ok (ps : List Pap) (hl : ps.length ≤ 3) (hall : ∀ (k : Nat) (p : Pap), ps[k]? = some p → OkPap p) : Good Try.prog TT true 10 [.tape, .lst 3 (ps.map encPap), .int .i64 4] ScrsR := by
  have L : (ps.map encPap).length = ps.length := List.length_map ..
  refine good_of mixed tabOk Try.func10 rfl rfl Try.ntmps10 Try.results10 rfl rfl ?_
  (conv => whnf); (repeat (first | (refine arith_i ⟨by omega, by omega⟩ ?_; conv => whnf) | (refine need_i (by first | omega | (simp only [List.length_append, List.length_cons, List.length_nil]; omega)) ?_; conv => whnf) | ((with_reducible refine branch_tt ?_); conv => whnf) | ((with_reducible refine branch_ff ?_); conv => whnf) | (with_reducible refine branch_not ?_)))
  refine loop_i (fun q : Nat × List Scr => q.1 ≤ 2 ∧ q.2.length ≤ 4 * q.1) (fun q => mkSt [(0, .tape), (1, .lst 3 (ps.map encPap)), (2, .int .i64 4), (7, .own 200 36 7 (q.2.map encR)), (8, .int .i64 q.1)] [] true) (fun q => 2 - q.1) (0, []) ⟨by decide, by decide⟩ (Le.trans (le_adopt 7 200 36 7 rfl) (le_mk ⟨rfl, rfl, rfl, rfl, rfl, trivial⟩ trivial rfl)) ?_
  rintro ⟨cd, out⟩ ⟨hcd, hout⟩
  replace hcd : cd ≤ 2 := hcd
  replace hout : out.length ≤ 4 * cd := hout
  (conv => whnf); (repeat (first | (refine arith_i ⟨by omega, by omega⟩ ?_; conv => whnf) | (refine need_i (by first | omega | (simp only [List.length_append, List.length_cons, List.length_nil]; omega)) ?_; conv => whnf) | ((with_reducible refine branch_tt ?_); conv => whnf) | ((with_reducible refine branch_ff ?_); conv => whnf) | (with_reducible refine branch_not ?_)))
  refine branch_d (fun h => ?_) (fun h => ?_)
  · replace h : (cd : Int) < 2 := h
    (conv => whnf); (repeat (first | (refine arith_i ⟨by omega, by omega⟩ ?_; conv => whnf) | (refine need_i (by first | omega | (simp only [List.length_append, List.length_cons, List.length_nil]; omega)) ?_; conv => whnf) | ((with_reducible refine branch_tt ?_); conv => whnf) | ((with_reducible refine branch_ff ?_); conv => whnf) | (with_reducible refine branch_not ?_)))
    refine loop_i (fun q : Nat × List Pap => q.1 ≤ ps.length ∧ q.2.length ≤ q.1 ∧ ∀ (k : Nat) (p : Pap), q.2[k]? = some p → OkPap p) (fun q => mkSt [(0, .tape), (1, .lst 3 (ps.map encPap)), (2, .int .i64 4), (7, .own 200 36 7 (out.map encR)), (8, .int .i64 cd), (9, .own 201 53 3 (q.2.map encPap)), (10, .int .i64 q.1)] [] true) (fun q => ps.length - q.1) (0, []) ⟨Nat.zero_le _, by decide, nofun⟩ (Le.trans (le_adopt 9 201 53 3 rfl) (le_mk ⟨rfl, rfl, rfl, rfl, rfl, rfl, rfl, trivial⟩ trivial rfl)) ?_
    rintro ⟨i, ls⟩ ⟨hi, hls, hok⟩
    replace hi : i ≤ ps.length := hi
    replace hls : ls.length ≤ i := hls
    replace hok : ∀ (k : Nat) (p : Pap), ls[k]? = some p → OkPap p := hok
    have Ls : (ls.map encPap).length = ls.length := List.length_map ..
    (conv => whnf); (repeat (first | (refine arith_i ⟨by omega, by omega⟩ ?_; conv => whnf) | (refine need_i (by first | omega | (simp only [List.length_append, List.length_cons, List.length_nil]; omega)) ?_; conv => whnf) | ((with_reducible refine branch_tt ?_); conv => whnf) | ((with_reducible refine branch_ff ?_); conv => whnf) | (with_reducible refine branch_not ?_)))
    refine branch_d (fun g => ?_) (fun g => ?_)
    · replace g : (i : Int) < (ps.map encPap).length := g
      (conv => whnf); (repeat (first | (refine arith_i ⟨by omega, by omega⟩ ?_; conv => whnf) | (refine need_i (by first | omega | (simp only [List.length_append, List.length_cons, List.length_nil]; omega)) ?_; conv => whnf) | ((with_reducible refine branch_tt ?_); conv => whnf) | ((with_reducible refine branch_ff ?_); conv => whnf) | (with_reducible refine branch_not ?_)))
      refine idx_m (by omega) (by omega) fun p hp => ?_
      (conv => whnf); (repeat (first | (refine arith_i ⟨by omega, by omega⟩ ?_; conv => whnf) | (refine need_i (by first | omega | (simp only [List.length_append, List.length_cons, List.length_nil]; omega)) ?_; conv => whnf) | ((with_reducible refine branch_tt ?_); conv => whnf) | ((with_reducible refine branch_ff ?_); conv => whnf) | (with_reducible refine branch_not ?_)))
      refine branch_e (fun he => ?_) (fun he => ?_)
      · (conv => whnf); (repeat (first | (refine arith_i ⟨by omega, by omega⟩ ?_; conv => whnf) | (refine need_i (by first | omega | (simp only [List.length_append, List.length_cons, List.length_nil]; omega)) ?_; conv => whnf) | ((with_reducible refine branch_tt ?_); conv => whnf) | ((with_reducible refine branch_ff ?_); conv => whnf) | (with_reducible refine branch_not ?_)))
        refine idx_m (by omega) (by omega) fun p' hp' => ?_
        (conv => whnf); (repeat (first | (refine arith_i ⟨by omega, by omega⟩ ?_; conv => whnf) | (refine need_i (by first | omega | (simp only [List.length_append, List.length_cons, List.length_nil]; omega)) ?_; conv => whnf) | ((with_reducible refine branch_tt ?_); conv => whnf) | ((with_reducible refine branch_ff ?_); conv => whnf) | (with_reducible refine branch_not ?_)))
        refine ⟨(i + 1, ls ++ [p']), ⟨by show i + 1 ≤ ps.length; omega, by show (ls ++ _).length ≤ i + 1; simp; omega, fun k x hx => ?_⟩, le_mk ⟨rfl, rfl, rfl, rfl, rfl, ?_, rfl, trivial⟩ trivial rfl, by show ps.length - (i + 1) < ps.length - i; omega⟩
        · rcases snoc_at hx with ⟨_, h'⟩ | ⟨_, rfl⟩
          · exact hok k x h'
          · exact hall _ _ hp'
        · simp only [List.map_append, List.map_cons, List.map_nil]
          rfl
      · (conv => whnf); (repeat (first | (refine arith_i ⟨by omega, by omega⟩ ?_; conv => whnf) | (refine need_i (by first | omega | (simp only [List.length_append, List.length_cons, List.length_nil]; omega)) ?_; conv => whnf) | ((with_reducible refine branch_tt ?_); conv => whnf) | ((with_reducible refine branch_ff ?_); conv => whnf) | (with_reducible refine branch_not ?_)))
        exact ⟨(i + 1, ls), ⟨by show i + 1 ≤ ps.length; omega, by show ls.length ≤ i + 1; omega, hok⟩, le_mk ⟨rfl, rfl, rfl, rfl, rfl, rfl, rfl, trivial⟩ trivial rfl, by show ps.length - (i + 1) < ps.length - i; omega⟩
    · have hls3 : ls.length ≤ 3 := by omega
      clear g
      (conv => whnf); (repeat (first | (refine arith_i ⟨by omega, by omega⟩ ?_; conv => whnf) | (refine need_i (by first | omega | (simp only [List.length_append, List.length_cons, List.length_nil]; omega)) ?_; conv => whnf) | ((with_reducible refine branch_tt ?_); conv => whnf) | ((with_reducible refine branch_ff ?_); conv => whnf) | (with_reducible refine branch_not ?_)))
      refine loop_i (fun q : Nat × List Scr => q.1 ≤ 4 ∧ q.2.length ≤ 4 * cd + q.1) (fun q => mkSt [(0, .tape), (1, .lst 3 (ps.map encPap)), (2, .int .i64 4), (7, .own 200 36 7 (q.2.map encR)), (8, .int .i64 cd), (9, .own 201 53 3 (ls.map encPap)), (11, .int .i64 (1 + q.1))] [] true) (fun q => 4 - q.1) (0, out) ⟨by show 0 ≤ 4; omega, by show out.length ≤ 4 * cd + 0; omega⟩ (le_mk ⟨rfl, rfl, rfl, rfl, rfl, rfl, rfl, trivial⟩ trivial rfl) ?_
      rintro ⟨c, ot⟩ ⟨hc, hot⟩
      replace hc : c ≤ 4 := hc
      replace hot : ot.length ≤ 4 * cd + c := hot
      have Lo : (ot.map encR).length = ot.length := List.length_map ..
      have e1 : ((c, ot).1 : Nat) = c := rfl
      (conv => whnf); (repeat (first | (refine arith_i ⟨by omega, by omega⟩ ?_; conv => whnf) | (refine need_i (by first | omega | (simp only [List.length_append, List.length_cons, List.length_nil]; omega)) ?_; conv => whnf) | ((with_reducible refine branch_tt ?_); conv => whnf) | ((with_reducible refine branch_ff ?_); conv => whnf) | (with_reducible refine branch_not ?_)))
      refine branch_d (fun g => ?_) (fun g => ?_)
      · replace g : 1 + (c : Int) ≤ 4 := g
        (conv => whnf); (repeat (first | (refine arith_i ⟨by omega, by omega⟩ ?_; conv => whnf) | (refine need_i (by first | omega | (simp only [List.length_append, List.length_cons, List.length_nil]; omega)) ?_; conv => whnf) | ((with_reducible refine branch_tt ?_); conv => whnf) | ((with_reducible refine branch_ff ?_); conv => whnf) | (with_reducible refine branch_not ?_)))
        refine branch_d (fun g2 => ?_) (fun g2 => ?_)
        · (conv => whnf); (repeat (first | (refine arith_i ⟨by omega, by omega⟩ ?_; conv => whnf) | (refine need_i (by first | omega | (simp only [List.length_append, List.length_cons, List.length_nil]; omega)) ?_; conv => whnf) | ((with_reducible refine branch_tt ?_); conv => whnf) | ((with_reducible refine branch_ff ?_); conv => whnf) | (with_reducible refine branch_not ?_)))
          refine call_i (next_ok 5 (by omega)) fun r hr => ?_
          obtain ⟨x, rfl, -, hx⟩ := hr
          (conv => whnf); (repeat (first | (refine arith_i ⟨by omega, by omega⟩ ?_; conv => whnf) | (refine need_i (by first | omega | (simp only [List.length_append, List.length_cons, List.length_nil]; omega)) ?_; conv => whnf) | ((with_reducible refine branch_tt ?_); conv => whnf) | ((with_reducible refine branch_ff ?_); conv => whnf) | (with_reducible refine branch_not ?_)))
          refine branch_d (fun g3 => ?_) (fun g3 => ?_)
          · (conv => whnf); (repeat (first | (refine arith_i ⟨by omega, by omega⟩ ?_; conv => whnf) | (refine need_i (by first | omega | (simp only [List.length_append, List.length_cons, List.length_nil]; omega)) ?_; conv => whnf) | ((with_reducible refine branch_tt ?_); conv => whnf) | ((with_reducible refine branch_ff ?_); conv => whnf) | (with_reducible refine branch_not ?_)))
            refine call_i (next_ok _ (by omega)) fun r hr => ?_
            obtain ⟨y, rfl, -, hy⟩ := hr
            replace hy := hy (by omega)
            (conv => whnf); (repeat (first | (refine arith_i ⟨by omega, by omega⟩ ?_; conv => whnf) | (refine need_i (by first | omega | (simp only [List.length_append, List.length_cons, List.length_nil]; omega)) ?_; conv => whnf) | ((with_reducible refine branch_tt ?_); conv => whnf) | ((with_reducible refine branch_ff ?_); conv => whnf) | (with_reducible refine branch_not ?_)))
            refine idx_m (by omega) (by omega) fun p hp => ?_
            (conv => whnf); (repeat (first | (refine arith_i ⟨by omega, by omega⟩ ?_; conv => whnf) | (refine need_i (by first | omega | (simp only [List.length_append, List.length_cons, List.length_nil]; omega)) ?_; conv => whnf) | ((with_reducible refine branch_tt ?_); conv => whnf) | ((with_reducible refine branch_ff ?_); conv => whnf) | (with_reducible refine branch_not ?_)))
            refine call_i (script_ok p (1 + c) (hok _ p hp) (by omega)) fun r hr => ?_
            obtain ⟨s, rfl⟩ := hr
            (conv => whnf); (repeat (first | (refine arith_i ⟨by omega, by omega⟩ ?_; conv => whnf) | (refine need_i (by first | omega | (simp only [List.length_append, List.length_cons, List.length_nil]; omega)) ?_; conv => whnf) | ((with_reducible refine branch_tt ?_); conv => whnf) | ((with_reducible refine branch_ff ?_); conv => whnf) | (with_reducible refine branch_not ?_)))
            refine ⟨(c + 1, ot ++ [s]), ⟨by show c + 1 ≤ 4; omega, by show (ot ++ _).length ≤ 4 * cd + (c + 1); simp; omega⟩, le_mk ⟨rfl, rfl, rfl, ?_, rfl, rfl, int_eq (by show (1 + (c : Int)) + 1 = 1 + ((c + 1 : Nat) : Int); omega), trivial⟩ trivial rfl, by show 4 - (c + 1) < 4 - c; omega⟩
            simp only [List.map_append, List.map_cons, List.map_nil]
            rfl
          · (conv => whnf); (repeat (first | (refine arith_i ⟨by omega, by omega⟩ ?_; conv => whnf) | (refine need_i (by first | omega | (simp only [List.length_append, List.length_cons, List.length_nil]; omega)) ?_; conv => whnf) | ((with_reducible refine branch_tt ?_); conv => whnf) | ((with_reducible refine branch_ff ?_); conv => whnf) | (with_reducible refine branch_not ?_)))
            exact ⟨(c + 1, ot), ⟨by show c + 1 ≤ 4; omega, by show ot.length ≤ 4 * cd + (c + 1); omega⟩, le_mk ⟨rfl, rfl, rfl, rfl, rfl, rfl, int_eq (by show (1 + (c : Int)) + 1 = 1 + ((c + 1 : Nat) : Int); omega), trivial⟩ trivial rfl, by show 4 - (c + 1) < 4 - c; omega⟩
        · (conv => whnf); (repeat (first | (refine arith_i ⟨by omega, by omega⟩ ?_; conv => whnf) | (refine need_i (by first | omega | (simp only [List.length_append, List.length_cons, List.length_nil]; omega)) ?_; conv => whnf) | ((with_reducible refine branch_tt ?_); conv => whnf) | ((with_reducible refine branch_ff ?_); conv => whnf) | (with_reducible refine branch_not ?_)))
          exact ⟨(cd + 1, ot), ⟨by show cd + 1 ≤ 2; omega, by show ot.length ≤ 4 * (cd + 1); omega⟩, le_mk ⟨rfl, rfl, rfl, rfl, rfl, trivial⟩ trivial rfl, by show 2 - (cd + 1) < 2 - cd; omega⟩
      · (conv => whnf); (repeat (first | (refine arith_i ⟨by omega, by omega⟩ ?_; conv => whnf) | (refine need_i (by first | omega | (simp only [List.length_append, List.length_cons, List.length_nil]; omega)) ?_; conv => whnf) | ((with_reducible refine branch_tt ?_); conv => whnf) | ((with_reducible refine branch_ff ?_); conv => whnf) | (with_reducible refine branch_not ?_)))
        exact ⟨(cd + 1, ot), ⟨by show cd + 1 ≤ 2; omega, by show ot.length ≤ 4 * (cd + 1); omega⟩, le_mk ⟨rfl, rfl, rfl, rfl, rfl, trivial⟩ trivial rfl, by show 2 - (cd + 1) < 2 - cd; omega⟩
  · (conv => whnf); (repeat (first | (refine arith_i ⟨by omega, by omega⟩ ?_; conv => whnf) | (refine need_i (by first | omega | (simp only [List.length_append, List.length_cons, List.length_nil]; omega)) ?_; conv => whnf) | ((with_reducible refine branch_tt ?_); conv => whnf) | ((with_reducible refine branch_ff ?_); conv => whnf) | (with_reducible refine branch_not ?_)))
    exact ret_o ⟨out, rfl, by omega⟩
theorem light_ok (xs : List Int) : Good Try.prog TT false 5 [ints xs] (· = .bool (decide (xs.length ≤ 600))) := by
  have L : (xs.map encI).length = xs.length := List.length_map ..
  refine good_of mixed tabOk Try.func5 rfl rfl Try.ntmps5 Try.results5 rfl rfl ?_
  (conv => whnf); (repeat (first | (refine arith_i ⟨by omega, by omega⟩ ?_; conv => whnf) | (refine need_i (by first | omega | (simp only [List.length_append, List.length_cons, List.length_nil]; omega)) ?_; conv => whnf) | ((with_reducible refine branch_tt ?_); conv => whnf) | ((with_reducible refine branch_ff ?_); conv => whnf) | (with_reducible refine branch_not ?_)))
  exact ret_p rfl (bool_eq (by rw [L]; rw [decide_eq_decide]; omega))
end Go.Proofs.Ytdoemjphffnmaaa
