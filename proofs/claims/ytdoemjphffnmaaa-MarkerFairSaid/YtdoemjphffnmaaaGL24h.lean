/- Layer 24 by the interpreter: the generators of lists of papers, of scripts. (Printed by wip/mk24h.py.) -/
import Derived.Test.YtdoemjphffnmaaaGL24g
namespace Go.Proofs.Ytdoemjphffnmaaa
set_option linter.unusedVariables false
set_option linter.unusedSimpArgs false
set_option linter.unnecessarySimpa false
set_option linter.unusedSectionVars false
set_option maxRecDepth 10000
open Go.RowKit

def PapsR (r : AV) : Prop := ∃ (ps : List Pap) (es : List (List AV)), r = .tup [.lst 3 (ps.map encPap), .lst 2 es] ∧ ps.length ≤ 3 ∧ ∀ (k : Nat) (p : Pap), ps[k]? = some p → OkPap p
theorem papers_ok : Good Try.prog TT true 9 [.tape] PapsR := by
  refine good_of mixed tabOk Try.func9 rfl rfl Try.ntmps9 Try.results9 rfl rfl ?_
  (conv => whnf); (repeat (first | (refine arith_i ⟨by omega, by omega⟩ ?_; conv => whnf) | (refine need_i (by first | omega | (simp only [List.length_append, List.length_cons, List.length_nil]; omega)) ?_; conv => whnf) | ((with_reducible refine branch_tt ?_); conv => whnf) | ((with_reducible refine branch_ff ?_); conv => whnf) | (with_reducible refine branch_not ?_)))
  refine call_i (paper_ok 0 0 (by omega)) fun r hr => ?_
  obtain ⟨p0, rfl, h0⟩ := hr
  (conv => whnf); (repeat (first | (refine arith_i ⟨by omega, by omega⟩ ?_; conv => whnf) | (refine need_i (by first | omega | (simp only [List.length_append, List.length_cons, List.length_nil]; omega)) ?_; conv => whnf) | ((with_reducible refine branch_tt ?_); conv => whnf) | ((with_reducible refine branch_ff ?_); conv => whnf) | (with_reducible refine branch_not ?_)))
  refine call_i (dbool_ok 2 (by omega)) fun r hr => ?_
  obtain ⟨bb, rfl⟩ := hr
  (conv => whnf); (repeat (first | (refine arith_i ⟨by omega, by omega⟩ ?_; conv => whnf) | (refine need_i (by first | omega | (simp only [List.length_append, List.length_cons, List.length_nil]; omega)) ?_; conv => whnf) | ((with_reducible refine branch_tt ?_); conv => whnf) | ((with_reducible refine branch_ff ?_); conv => whnf) | (with_reducible refine branch_not ?_)))
  cases bb with
  | true =>
    (conv => whnf); (repeat (first | (refine arith_i ⟨by omega, by omega⟩ ?_; conv => whnf) | (refine need_i (by first | omega | (simp only [List.length_append, List.length_cons, List.length_nil]; omega)) ?_; conv => whnf) | ((with_reducible refine branch_tt ?_); conv => whnf) | ((with_reducible refine branch_ff ?_); conv => whnf) | (with_reducible refine branch_not ?_)))
    refine call_i (paper_ok 0 1 (by omega)) fun r hr => ?_
    obtain ⟨p1, rfl, h1⟩ := hr
    (conv => whnf); (repeat (first | (refine arith_i ⟨by omega, by omega⟩ ?_; conv => whnf) | (refine need_i (by first | omega | (simp only [List.length_append, List.length_cons, List.length_nil]; omega)) ?_; conv => whnf) | ((with_reducible refine branch_tt ?_); conv => whnf) | ((with_reducible refine branch_ff ?_); conv => whnf) | (with_reducible refine branch_not ?_)))
    refine call_i (dbool_ok 2 (by omega)) fun r hr => ?_
    obtain ⟨bc, rfl⟩ := hr
    (conv => whnf); (repeat (first | (refine arith_i ⟨by omega, by omega⟩ ?_; conv => whnf) | (refine need_i (by first | omega | (simp only [List.length_append, List.length_cons, List.length_nil]; omega)) ?_; conv => whnf) | ((with_reducible refine branch_tt ?_); conv => whnf) | ((with_reducible refine branch_ff ?_); conv => whnf) | (with_reducible refine branch_not ?_)))
    cases bc with
    | true =>
      (conv => whnf); (repeat (first | (refine arith_i ⟨by omega, by omega⟩ ?_; conv => whnf) | (refine need_i (by first | omega | (simp only [List.length_append, List.length_cons, List.length_nil]; omega)) ?_; conv => whnf) | ((with_reducible refine branch_tt ?_); conv => whnf) | ((with_reducible refine branch_ff ?_); conv => whnf) | (with_reducible refine branch_not ?_)))
      refine call_i (paper_ok 1 0 (by omega)) fun r hr => ?_
      obtain ⟨p2, rfl, h2⟩ := hr
      (conv => whnf); (repeat (first | (refine arith_i ⟨by omega, by omega⟩ ?_; conv => whnf) | (refine need_i (by first | omega | (simp only [List.length_append, List.length_cons, List.length_nil]; omega)) ?_; conv => whnf) | ((with_reducible refine branch_tt ?_); conv => whnf) | ((with_reducible refine branch_ff ?_); conv => whnf) | (with_reducible refine branch_not ?_)))
      have hall : ∀ (k : Nat) (p : Pap), [p0, p1, p2][k]? = some p → OkPap p := fun k p h => by
        have := List.mem_of_getElem? h
        simp at this
        rcases this with rfl | rfl | rfl
        · exact h0
        · exact h1
        · exact h2
      generalize hps : [p0, p1, p2] = ps at hall
      have Lp : (ps.map encPap).length = 3 := by rw [← hps]; rfl
      have Lq : ps.length = 3 := by rw [← hps]; rfl
      refine loop_i (fun q : Nat × List (List AV) => q.1 ≤ 3 ∧ q.2.length ≤ q.1) (fun q => mkSt [(0, .tape), (4, .own 9 53 3 (ps.map encPap)), (5, .own 200 57 2 q.2), (6, .int .i64 q.1)] [] true) (fun q => 3 - q.1) (0, []) ⟨by decide, by decide⟩ (Le.trans (le_adopt 5 200 57 2 rfl) (le_mk ⟨rfl, by rw [← hps]; rfl, rfl, rfl, trivial⟩ trivial rfl)) ?_
      rintro ⟨i, es⟩ ⟨hi, he⟩
      replace hi : i ≤ 3 := hi
      replace he : es.length ≤ i := he
      (conv => whnf); (repeat (first | (refine arith_i ⟨by omega, by omega⟩ ?_; conv => whnf) | (refine need_i (by first | omega | (simp only [List.length_append, List.length_cons, List.length_nil]; omega)) ?_; conv => whnf) | ((with_reducible refine branch_tt ?_); conv => whnf) | ((with_reducible refine branch_ff ?_); conv => whnf) | (with_reducible refine branch_not ?_)))
      refine branch_d (fun h => ?_) (fun h => ?_)
      · replace h : (i : Int) < (ps.map encPap).length := h
        (conv => whnf); (repeat (first | (refine arith_i ⟨by omega, by omega⟩ ?_; conv => whnf) | (refine need_i (by first | omega | (simp only [List.length_append, List.length_cons, List.length_nil]; omega)) ?_; conv => whnf) | ((with_reducible refine branch_tt ?_); conv => whnf) | ((with_reducible refine branch_ff ?_); conv => whnf) | (with_reducible refine branch_not ?_)))
        refine idx_m (by omega) (by omega) fun p hp => ?_
        (conv => whnf); (repeat (first | (refine arith_i ⟨by omega, by omega⟩ ?_; conv => whnf) | (refine need_i (by first | omega | (simp only [List.length_append, List.length_cons, List.length_nil]; omega)) ?_; conv => whnf) | ((with_reducible refine branch_tt ?_); conv => whnf) | ((with_reducible refine branch_ff ?_); conv => whnf) | (with_reducible refine branch_not ?_)))
        refine call_i (scheme_ok p (hall _ p hp)) fun r hr => ?_
        obtain ⟨qa, qb, rfl⟩ := hr
        (conv => whnf); (repeat (first | (refine arith_i ⟨by omega, by omega⟩ ?_; conv => whnf) | (refine need_i (by first | omega | (simp only [List.length_append, List.length_cons, List.length_nil]; omega)) ?_; conv => whnf) | ((with_reducible refine branch_tt ?_); conv => whnf) | ((with_reducible refine branch_ff ?_); conv => whnf) | (with_reducible refine branch_not ?_)))
        exact ⟨(i + 1, es ++ [[.lst 1 qa, .lst 1 qb]]), ⟨by show i + 1 ≤ 3; omega, by show (es ++ _).length ≤ i + 1; simp; omega⟩, le_mk ⟨rfl, rfl, rfl, rfl, trivial⟩ trivial rfl, by show 3 - (i + 1) < 3 - i; omega⟩
      · replace h : ¬ (i : Int) < (ps.map encPap).length := h
        (conv => whnf); (repeat (first | (refine arith_i ⟨by omega, by omega⟩ ?_; conv => whnf) | (refine need_i (by first | omega | (simp only [List.length_append, List.length_cons, List.length_nil]; omega)) ?_; conv => whnf) | ((with_reducible refine branch_tt ?_); conv => whnf) | ((with_reducible refine branch_ff ?_); conv => whnf) | (with_reducible refine branch_not ?_)))
        exact ret_t (rs := [.lst 3 (ps.map encPap), .lst 2 es]) ⟨rc_o.g, rc_o.g, trivial⟩ ⟨ps, es, rfl, by omega, hall⟩
    | false =>
      (conv => whnf); (repeat (first | (refine arith_i ⟨by omega, by omega⟩ ?_; conv => whnf) | (refine need_i (by first | omega | (simp only [List.length_append, List.length_cons, List.length_nil]; omega)) ?_; conv => whnf) | ((with_reducible refine branch_tt ?_); conv => whnf) | ((with_reducible refine branch_ff ?_); conv => whnf) | (with_reducible refine branch_not ?_)))
      have hall : ∀ (k : Nat) (p : Pap), [p0, p1][k]? = some p → OkPap p := fun k p h => by
        have := List.mem_of_getElem? h
        simp at this
        rcases this with rfl | rfl
        · exact h0
        · exact h1
      generalize hps : [p0, p1] = ps at hall
      have Lp : (ps.map encPap).length = 2 := by rw [← hps]; rfl
      have Lq : ps.length = 2 := by rw [← hps]; rfl
      refine loop_i (fun q : Nat × List (List AV) => q.1 ≤ 2 ∧ q.2.length ≤ q.1) (fun q => mkSt [(0, .tape), (4, .own 9 53 3 (ps.map encPap)), (5, .own 200 57 2 q.2), (6, .int .i64 q.1)] [] true) (fun q => 2 - q.1) (0, []) ⟨by decide, by decide⟩ (Le.trans (le_adopt 5 200 57 2 rfl) (le_mk ⟨rfl, by rw [← hps]; rfl, rfl, rfl, trivial⟩ trivial rfl)) ?_
      rintro ⟨i, es⟩ ⟨hi, he⟩
      replace hi : i ≤ 2 := hi
      replace he : es.length ≤ i := he
      (conv => whnf); (repeat (first | (refine arith_i ⟨by omega, by omega⟩ ?_; conv => whnf) | (refine need_i (by first | omega | (simp only [List.length_append, List.length_cons, List.length_nil]; omega)) ?_; conv => whnf) | ((with_reducible refine branch_tt ?_); conv => whnf) | ((with_reducible refine branch_ff ?_); conv => whnf) | (with_reducible refine branch_not ?_)))
      refine branch_d (fun h => ?_) (fun h => ?_)
      · replace h : (i : Int) < (ps.map encPap).length := h
        (conv => whnf); (repeat (first | (refine arith_i ⟨by omega, by omega⟩ ?_; conv => whnf) | (refine need_i (by first | omega | (simp only [List.length_append, List.length_cons, List.length_nil]; omega)) ?_; conv => whnf) | ((with_reducible refine branch_tt ?_); conv => whnf) | ((with_reducible refine branch_ff ?_); conv => whnf) | (with_reducible refine branch_not ?_)))
        refine idx_m (by omega) (by omega) fun p hp => ?_
        (conv => whnf); (repeat (first | (refine arith_i ⟨by omega, by omega⟩ ?_; conv => whnf) | (refine need_i (by first | omega | (simp only [List.length_append, List.length_cons, List.length_nil]; omega)) ?_; conv => whnf) | ((with_reducible refine branch_tt ?_); conv => whnf) | ((with_reducible refine branch_ff ?_); conv => whnf) | (with_reducible refine branch_not ?_)))
        refine call_i (scheme_ok p (hall _ p hp)) fun r hr => ?_
        obtain ⟨qa, qb, rfl⟩ := hr
        (conv => whnf); (repeat (first | (refine arith_i ⟨by omega, by omega⟩ ?_; conv => whnf) | (refine need_i (by first | omega | (simp only [List.length_append, List.length_cons, List.length_nil]; omega)) ?_; conv => whnf) | ((with_reducible refine branch_tt ?_); conv => whnf) | ((with_reducible refine branch_ff ?_); conv => whnf) | (with_reducible refine branch_not ?_)))
        exact ⟨(i + 1, es ++ [[.lst 1 qa, .lst 1 qb]]), ⟨by show i + 1 ≤ 2; omega, by show (es ++ _).length ≤ i + 1; simp; omega⟩, le_mk ⟨rfl, rfl, rfl, rfl, trivial⟩ trivial rfl, by show 2 - (i + 1) < 2 - i; omega⟩
      · replace h : ¬ (i : Int) < (ps.map encPap).length := h
        (conv => whnf); (repeat (first | (refine arith_i ⟨by omega, by omega⟩ ?_; conv => whnf) | (refine need_i (by first | omega | (simp only [List.length_append, List.length_cons, List.length_nil]; omega)) ?_; conv => whnf) | ((with_reducible refine branch_tt ?_); conv => whnf) | ((with_reducible refine branch_ff ?_); conv => whnf) | (with_reducible refine branch_not ?_)))
        exact ret_t (rs := [.lst 3 (ps.map encPap), .lst 2 es]) ⟨rc_o.g, rc_o.g, trivial⟩ ⟨ps, es, rfl, by omega, hall⟩
  | false =>
    (conv => whnf); (repeat (first | (refine arith_i ⟨by omega, by omega⟩ ?_; conv => whnf) | (refine need_i (by first | omega | (simp only [List.length_append, List.length_cons, List.length_nil]; omega)) ?_; conv => whnf) | ((with_reducible refine branch_tt ?_); conv => whnf) | ((with_reducible refine branch_ff ?_); conv => whnf) | (with_reducible refine branch_not ?_)))
    refine call_i (dbool_ok 2 (by omega)) fun r hr => ?_
    obtain ⟨bc, rfl⟩ := hr
    (conv => whnf); (repeat (first | (refine arith_i ⟨by omega, by omega⟩ ?_; conv => whnf) | (refine need_i (by first | omega | (simp only [List.length_append, List.length_cons, List.length_nil]; omega)) ?_; conv => whnf) | ((with_reducible refine branch_tt ?_); conv => whnf) | ((with_reducible refine branch_ff ?_); conv => whnf) | (with_reducible refine branch_not ?_)))
    cases bc with
    | true =>
      (conv => whnf); (repeat (first | (refine arith_i ⟨by omega, by omega⟩ ?_; conv => whnf) | (refine need_i (by first | omega | (simp only [List.length_append, List.length_cons, List.length_nil]; omega)) ?_; conv => whnf) | ((with_reducible refine branch_tt ?_); conv => whnf) | ((with_reducible refine branch_ff ?_); conv => whnf) | (with_reducible refine branch_not ?_)))
      refine call_i (paper_ok 1 0 (by omega)) fun r hr => ?_
      obtain ⟨p2, rfl, h2⟩ := hr
      (conv => whnf); (repeat (first | (refine arith_i ⟨by omega, by omega⟩ ?_; conv => whnf) | (refine need_i (by first | omega | (simp only [List.length_append, List.length_cons, List.length_nil]; omega)) ?_; conv => whnf) | ((with_reducible refine branch_tt ?_); conv => whnf) | ((with_reducible refine branch_ff ?_); conv => whnf) | (with_reducible refine branch_not ?_)))
      have hall : ∀ (k : Nat) (p : Pap), [p0, p2][k]? = some p → OkPap p := fun k p h => by
        have := List.mem_of_getElem? h
        simp at this
        rcases this with rfl | rfl
        · exact h0
        · exact h2
      generalize hps : [p0, p2] = ps at hall
      have Lp : (ps.map encPap).length = 2 := by rw [← hps]; rfl
      have Lq : ps.length = 2 := by rw [← hps]; rfl
      refine loop_i (fun q : Nat × List (List AV) => q.1 ≤ 2 ∧ q.2.length ≤ q.1) (fun q => mkSt [(0, .tape), (4, .own 9 53 3 (ps.map encPap)), (5, .own 200 57 2 q.2), (6, .int .i64 q.1)] [] true) (fun q => 2 - q.1) (0, []) ⟨by decide, by decide⟩ (Le.trans (le_adopt 5 200 57 2 rfl) (le_mk ⟨rfl, by rw [← hps]; rfl, rfl, rfl, trivial⟩ trivial rfl)) ?_
      rintro ⟨i, es⟩ ⟨hi, he⟩
      replace hi : i ≤ 2 := hi
      replace he : es.length ≤ i := he
      (conv => whnf); (repeat (first | (refine arith_i ⟨by omega, by omega⟩ ?_; conv => whnf) | (refine need_i (by first | omega | (simp only [List.length_append, List.length_cons, List.length_nil]; omega)) ?_; conv => whnf) | ((with_reducible refine branch_tt ?_); conv => whnf) | ((with_reducible refine branch_ff ?_); conv => whnf) | (with_reducible refine branch_not ?_)))
      refine branch_d (fun h => ?_) (fun h => ?_)
      · replace h : (i : Int) < (ps.map encPap).length := h
        (conv => whnf); (repeat (first | (refine arith_i ⟨by omega, by omega⟩ ?_; conv => whnf) | (refine need_i (by first | omega | (simp only [List.length_append, List.length_cons, List.length_nil]; omega)) ?_; conv => whnf) | ((with_reducible refine branch_tt ?_); conv => whnf) | ((with_reducible refine branch_ff ?_); conv => whnf) | (with_reducible refine branch_not ?_)))
        refine idx_m (by omega) (by omega) fun p hp => ?_
        (conv => whnf); (repeat (first | (refine arith_i ⟨by omega, by omega⟩ ?_; conv => whnf) | (refine need_i (by first | omega | (simp only [List.length_append, List.length_cons, List.length_nil]; omega)) ?_; conv => whnf) | ((with_reducible refine branch_tt ?_); conv => whnf) | ((with_reducible refine branch_ff ?_); conv => whnf) | (with_reducible refine branch_not ?_)))
        refine call_i (scheme_ok p (hall _ p hp)) fun r hr => ?_
        obtain ⟨qa, qb, rfl⟩ := hr
        (conv => whnf); (repeat (first | (refine arith_i ⟨by omega, by omega⟩ ?_; conv => whnf) | (refine need_i (by first | omega | (simp only [List.length_append, List.length_cons, List.length_nil]; omega)) ?_; conv => whnf) | ((with_reducible refine branch_tt ?_); conv => whnf) | ((with_reducible refine branch_ff ?_); conv => whnf) | (with_reducible refine branch_not ?_)))
        exact ⟨(i + 1, es ++ [[.lst 1 qa, .lst 1 qb]]), ⟨by show i + 1 ≤ 2; omega, by show (es ++ _).length ≤ i + 1; simp; omega⟩, le_mk ⟨rfl, rfl, rfl, rfl, trivial⟩ trivial rfl, by show 2 - (i + 1) < 2 - i; omega⟩
      · replace h : ¬ (i : Int) < (ps.map encPap).length := h
        (conv => whnf); (repeat (first | (refine arith_i ⟨by omega, by omega⟩ ?_; conv => whnf) | (refine need_i (by first | omega | (simp only [List.length_append, List.length_cons, List.length_nil]; omega)) ?_; conv => whnf) | ((with_reducible refine branch_tt ?_); conv => whnf) | ((with_reducible refine branch_ff ?_); conv => whnf) | (with_reducible refine branch_not ?_)))
        exact ret_t (rs := [.lst 3 (ps.map encPap), .lst 2 es]) ⟨rc_o.g, rc_o.g, trivial⟩ ⟨ps, es, rfl, by omega, hall⟩
    | false =>
      (conv => whnf); (repeat (first | (refine arith_i ⟨by omega, by omega⟩ ?_; conv => whnf) | (refine need_i (by first | omega | (simp only [List.length_append, List.length_cons, List.length_nil]; omega)) ?_; conv => whnf) | ((with_reducible refine branch_tt ?_); conv => whnf) | ((with_reducible refine branch_ff ?_); conv => whnf) | (with_reducible refine branch_not ?_)))
      have hall : ∀ (k : Nat) (p : Pap), [p0][k]? = some p → OkPap p := fun k p h => by
        have := List.mem_of_getElem? h
        simp at this
        rcases this with rfl
        · exact h0
      generalize hps : [p0] = ps at hall
      have Lp : (ps.map encPap).length = 1 := by rw [← hps]; rfl
      have Lq : ps.length = 1 := by rw [← hps]; rfl
      refine loop_i (fun q : Nat × List (List AV) => q.1 ≤ 1 ∧ q.2.length ≤ q.1) (fun q => mkSt [(0, .tape), (4, .own 9 53 3 (ps.map encPap)), (5, .own 200 57 2 q.2), (6, .int .i64 q.1)] [] true) (fun q => 1 - q.1) (0, []) ⟨by decide, by decide⟩ (Le.trans (le_adopt 5 200 57 2 rfl) (le_mk ⟨rfl, by rw [← hps]; rfl, rfl, rfl, trivial⟩ trivial rfl)) ?_
      rintro ⟨i, es⟩ ⟨hi, he⟩
      replace hi : i ≤ 1 := hi
      replace he : es.length ≤ i := he
      (conv => whnf); (repeat (first | (refine arith_i ⟨by omega, by omega⟩ ?_; conv => whnf) | (refine need_i (by first | omega | (simp only [List.length_append, List.length_cons, List.length_nil]; omega)) ?_; conv => whnf) | ((with_reducible refine branch_tt ?_); conv => whnf) | ((with_reducible refine branch_ff ?_); conv => whnf) | (with_reducible refine branch_not ?_)))
      refine branch_d (fun h => ?_) (fun h => ?_)
      · replace h : (i : Int) < (ps.map encPap).length := h
        (conv => whnf); (repeat (first | (refine arith_i ⟨by omega, by omega⟩ ?_; conv => whnf) | (refine need_i (by first | omega | (simp only [List.length_append, List.length_cons, List.length_nil]; omega)) ?_; conv => whnf) | ((with_reducible refine branch_tt ?_); conv => whnf) | ((with_reducible refine branch_ff ?_); conv => whnf) | (with_reducible refine branch_not ?_)))
        refine idx_m (by omega) (by omega) fun p hp => ?_
        (conv => whnf); (repeat (first | (refine arith_i ⟨by omega, by omega⟩ ?_; conv => whnf) | (refine need_i (by first | omega | (simp only [List.length_append, List.length_cons, List.length_nil]; omega)) ?_; conv => whnf) | ((with_reducible refine branch_tt ?_); conv => whnf) | ((with_reducible refine branch_ff ?_); conv => whnf) | (with_reducible refine branch_not ?_)))
        refine call_i (scheme_ok p (hall _ p hp)) fun r hr => ?_
        obtain ⟨qa, qb, rfl⟩ := hr
        (conv => whnf); (repeat (first | (refine arith_i ⟨by omega, by omega⟩ ?_; conv => whnf) | (refine need_i (by first | omega | (simp only [List.length_append, List.length_cons, List.length_nil]; omega)) ?_; conv => whnf) | ((with_reducible refine branch_tt ?_); conv => whnf) | ((with_reducible refine branch_ff ?_); conv => whnf) | (with_reducible refine branch_not ?_)))
        exact ⟨(i + 1, es ++ [[.lst 1 qa, .lst 1 qb]]), ⟨by show i + 1 ≤ 1; omega, by show (es ++ _).length ≤ i + 1; simp; omega⟩, le_mk ⟨rfl, rfl, rfl, rfl, trivial⟩ trivial rfl, by show 1 - (i + 1) < 1 - i; omega⟩
      · replace h : ¬ (i : Int) < (ps.map encPap).length := h
        (conv => whnf); (repeat (first | (refine arith_i ⟨by omega, by omega⟩ ?_; conv => whnf) | (refine need_i (by first | omega | (simp only [List.length_append, List.length_cons, List.length_nil]; omega)) ?_; conv => whnf) | ((with_reducible refine branch_tt ?_); conv => whnf) | ((with_reducible refine branch_ff ?_); conv => whnf) | (with_reducible refine branch_not ?_)))
        exact ret_t (rs := [.lst 3 (ps.map encPap), .lst 2 es]) ⟨rc_o.g, rc_o.g, trivial⟩ ⟨ps, es, rfl, by omega, hall⟩
def ScrR (r : AV) : Prop := ∃ s, r = .agg (encR s)
def scr0 : List AV := [.int .i64 0, .int .i64 0, .int .i64 0, .int .i64 0, .int .i64 0, .nil, .nil]
theorem script_ok (p : Pap) (c : Int) (hp : OkPap p) (hc : 0 ≤ c ∧ c ≤ 100) : Good Try.prog TT true 22 [.tape, .agg (encPap p), .int .i64 c] ScrR := by
  have L : (p.parts.map encPrt).length = p.parts.length := List.length_map ..
  obtain ⟨h1, h2, h3, h4⟩ := hp
  refine good_of_c (fun i => Nat.beq i 2) mixed tabOk Try.func22 rfl rfl Try.ntmps22 Try.results22 rfl rfl ?_
  (conv => whnf); (repeat (first | (refine arith_i ⟨by omega, by omega⟩ ?_; conv => whnf) | (refine need_i (by first | omega | (simp only [List.length_append, List.length_cons, List.length_nil]; omega)) ?_; conv => whnf) | ((with_reducible refine branch_tt ?_); conv => whnf) | ((with_reducible refine branch_ff ?_); conv => whnf) | (with_reducible refine branch_not ?_)))
  refine draw_i 23 (.take 0 (.take 1 (.take 2 (.take 3 (.take 4 (.take 5 (.take 6 (.take 7 (.take 8 (.take 11 (.take 12 (.take 13 (.take 14 (.take 15 (.take 16 (.take 17 (.take 18 (.alt 9 (.take 10 (.alt 19 (.alt 20 (.take 21 (.alt 22 (.alt 23 .done .stop) .stop)) (.alt 22 (.alt 20 (.take 21 (.alt 23 .done .stop)) .stop) .stop)) (.alt 22 (.alt 19 (.alt 20 (.take 21 (.alt 23 .done .stop)) .stop) .stop) .stop))) (.alt 22 (.alt 9 (.take 10 (.alt 19 (.alt 20 (.take 21 (.alt 23 .done .stop)) .stop) .stop)) .stop) .stop))))))))))))))))))) (by decide +kernel) ?_
  (conv => whnf); (repeat (first | (refine arith_i ⟨by omega, by omega⟩ ?_; conv => whnf) | (refine need_i (by first | omega | (simp only [List.length_append, List.length_cons, List.length_nil]; omega)) ?_; conv => whnf) | ((with_reducible refine branch_tt ?_); conv => whnf) | ((with_reducible refine branch_ff ?_); conv => whnf) | (with_reducible refine branch_not ?_)))
  refine ⟨?_, ?_, trivial⟩
  · (conv => whnf); (repeat (first | (refine arith_i ⟨by omega, by omega⟩ ?_; conv => whnf) | (refine need_i (by first | omega | (simp only [List.length_append, List.length_cons, List.length_nil]; omega)) ?_; conv => whnf) | ((with_reducible refine branch_tt ?_); conv => whnf) | ((with_reducible refine branch_ff ?_); conv => whnf) | (with_reducible refine branch_not ?_)))
    refine call_i (next_ok 3 (by omega)) fun r hr => ?_
    obtain ⟨x, rfl, -, hx⟩ := hr
    replace hx := hx (by omega)
    (conv => whnf); (repeat (first | (refine arith_i ⟨by omega, by omega⟩ ?_; conv => whnf) | (refine need_i (by first | omega | (simp only [List.length_append, List.length_cons, List.length_nil]; omega)) ?_; conv => whnf) | ((with_reducible refine branch_tt ?_); conv => whnf) | ((with_reducible refine branch_ff ?_); conv => whnf) | (with_reducible refine branch_not ?_)))
    refine ⟨?_, ?_, trivial⟩
    · (conv => whnf); (repeat (first | (refine arith_i ⟨by omega, by omega⟩ ?_; conv => whnf) | (refine need_i (by first | omega | (simp only [List.length_append, List.length_cons, List.length_nil]; omega)) ?_; conv => whnf) | ((with_reducible refine branch_tt ?_); conv => whnf) | ((with_reducible refine branch_ff ?_); conv => whnf) | (with_reducible refine branch_not ?_)))
      refine call_i (next_ok 3 (by omega)) fun r hr => ?_
      obtain ⟨y, rfl, -, hy⟩ := hr
      replace hy := hy (by omega)
      (conv => whnf); (repeat (first | (refine arith_i ⟨by omega, by omega⟩ ?_; conv => whnf) | (refine need_i (by first | omega | (simp only [List.length_append, List.length_cons, List.length_nil]; omega)) ?_; conv => whnf) | ((with_reducible refine branch_tt ?_); conv => whnf) | ((with_reducible refine branch_ff ?_); conv => whnf) | (with_reducible refine branch_not ?_)))
      refine ⟨?_, ?_, trivial⟩
      · (conv => whnf); (repeat (first | (refine arith_i ⟨by omega, by omega⟩ ?_; conv => whnf) | (refine need_i (by first | omega | (simp only [List.length_append, List.length_cons, List.length_nil]; omega)) ?_; conv => whnf) | ((with_reducible refine branch_tt ?_); conv => whnf) | ((with_reducible refine branch_ff ?_); conv => whnf) | (with_reducible refine branch_not ?_)))
        refine ⟨?_, trivial⟩
        (conv => whnf); (repeat (first | (refine arith_i ⟨by omega, by omega⟩ ?_; conv => whnf) | (refine need_i (by first | omega | (simp only [List.length_append, List.length_cons, List.length_nil]; omega)) ?_; conv => whnf) | ((with_reducible refine branch_tt ?_); conv => whnf) | ((with_reducible refine branch_ff ?_); conv => whnf) | (with_reducible refine branch_not ?_)))
        refine ⟨?_, trivial⟩
        (conv => whnf); (repeat (first | (refine arith_i ⟨by omega, by omega⟩ ?_; conv => whnf) | (refine need_i (by first | omega | (simp only [List.length_append, List.length_cons, List.length_nil]; omega)) ?_; conv => whnf) | ((with_reducible refine branch_tt ?_); conv => whnf) | ((with_reducible refine branch_ff ?_); conv => whnf) | (with_reducible refine branch_not ?_)))
        refine rest_i (mkSt [(0, .tape), (4, .ptr 4 0), (6, .ptr 6 0), (7, .ptr 7 0)] [(4, encPap p), (6, scr0), (7, [.int .i64 (p.code * 10000 + c), .int .i64 p.code, .int .i64 c, .int .i64 (1 + x), .int .i64 p.variant, .own 30 3 1 [[.int .i64 (100 * c + p.code)], [.int .i64 y]], .nil])] true) (le_mk ⟨rfl, rfl, rfl, rfl, trivial⟩ ⟨rfl, rfl, rfl, trivial⟩ rfl) ?_
        (conv => whnf); (repeat (first | (refine arith_i ⟨by omega, by omega⟩ ?_; conv => whnf) | (refine need_i (by first | omega | (simp only [List.length_append, List.length_cons, List.length_nil]; omega)) ?_; conv => whnf) | ((with_reducible refine branch_tt ?_); conv => whnf) | ((with_reducible refine branch_ff ?_); conv => whnf) | (with_reducible refine branch_not ?_)))
        refine loop_i (fun an : List Int => an.length ≤ p.parts.length) (fun an => mkSt [(0, .tape), (4, .ptr 4 0), (6, .ptr 6 0), (7, .ptr 7 0), (8, .int .i64 an.length)] [(4, encPap p), (6, scr0), (7, [.int .i64 (p.code * 10000 + c), .int .i64 p.code, .int .i64 c, .int .i64 (1 + x), .int .i64 p.variant, .own 30 3 1 [[.int .i64 (100 * c + p.code)], [.int .i64 y]], .own 200 3 1 (an.map encI)])] true) (fun an => p.parts.length - an.length) [] (Nat.zero_le _) (Le.trans (le_adoptBox 7 6 200 3 1 rfl rfl) (le_mk ⟨rfl, rfl, rfl, rfl, rfl, trivial⟩ ⟨rfl, rfl, rfl, trivial⟩ rfl)) ?_
        intro an ha
        have La : (an.map encI).length = an.length := List.length_map ..
        (conv => whnf); (repeat (first | (refine arith_i ⟨by omega, by omega⟩ ?_; conv => whnf) | (refine need_i (by first | omega | (simp only [List.length_append, List.length_cons, List.length_nil]; omega)) ?_; conv => whnf) | ((with_reducible refine branch_tt ?_); conv => whnf) | ((with_reducible refine branch_ff ?_); conv => whnf) | (with_reducible refine branch_not ?_)))
        refine branch_d (fun h => ?_) (fun h => ?_)
        · (conv => whnf); (repeat (first | (refine arith_i ⟨by omega, by omega⟩ ?_; conv => whnf) | (refine need_i (by first | omega | (simp only [List.length_append, List.length_cons, List.length_nil]; omega)) ?_; conv => whnf) | ((with_reducible refine branch_tt ?_); conv => whnf) | ((with_reducible refine branch_ff ?_); conv => whnf) | (with_reducible refine branch_not ?_)))
          refine idx_m (by omega) (by omega) fun t ht => ?_
          (conv => whnf); (repeat (first | (refine arith_i ⟨by omega, by omega⟩ ?_; conv => whnf) | (refine need_i (by first | omega | (simp only [List.length_append, List.length_cons, List.length_nil]; omega)) ?_; conv => whnf) | ((with_reducible refine branch_tt ?_); conv => whnf) | ((with_reducible refine branch_ff ?_); conv => whnf) | (with_reducible refine branch_not ?_)))
          refine branch_e (fun hk => ?_) (fun hk => ?_)
          · (conv => whnf); (repeat (first | (refine arith_i ⟨by omega, by omega⟩ ?_; conv => whnf) | (refine need_i (by first | omega | (simp only [List.length_append, List.length_cons, List.length_nil]; omega)) ?_; conv => whnf) | ((with_reducible refine branch_tt ?_); conv => whnf) | ((with_reducible refine branch_ff ?_); conv => whnf) | (with_reducible refine branch_not ?_)))
            refine idx_m (by omega) (by omega) fun t' ht' => ?_
            (conv => whnf); (repeat (first | (refine arith_i ⟨by omega, by omega⟩ ?_; conv => whnf) | (refine need_i (by first | omega | (simp only [List.length_append, List.length_cons, List.length_nil]; omega)) ?_; conv => whnf) | ((with_reducible refine branch_tt ?_); conv => whnf) | ((with_reducible refine branch_ff ?_); conv => whnf) | (with_reducible refine branch_not ?_)))
            refine call_i (pick_ok [t'.key, 0, 1, -1, -2] (by simp) (by simp)) fun r hr => ?_
            obtain ⟨u, rfl, -⟩ := hr
            (conv => whnf); (repeat (first | (refine arith_i ⟨by omega, by omega⟩ ?_; conv => whnf) | (refine need_i (by first | omega | (simp only [List.length_append, List.length_cons, List.length_nil]; omega)) ?_; conv => whnf) | ((with_reducible refine branch_tt ?_); conv => whnf) | ((with_reducible refine branch_ff ?_); conv => whnf) | (with_reducible refine branch_not ?_)))
            refine ⟨an ++ [u], by simp; omega, le_mk ⟨rfl, rfl, rfl, rfl, int_eq (by simp), trivial⟩ ⟨rfl, rfl, ?_, trivial⟩ rfl, by simp; omega⟩
            simp only [List.map_append, List.map_cons, List.map_nil]
            rfl
          · (conv => whnf); (repeat (first | (refine arith_i ⟨by omega, by omega⟩ ?_; conv => whnf) | (refine need_i (by first | omega | (simp only [List.length_append, List.length_cons, List.length_nil]; omega)) ?_; conv => whnf) | ((with_reducible refine branch_tt ?_); conv => whnf) | ((with_reducible refine branch_ff ?_); conv => whnf) | (with_reducible refine branch_not ?_)))
            refine ⟨an ++ [-1], by simp; omega, le_mk ⟨rfl, rfl, rfl, rfl, int_eq (by simp), trivial⟩ ⟨rfl, rfl, ?_, trivial⟩ rfl, by simp; omega⟩
            simp only [List.map_append, List.map_cons, List.map_nil]
            rfl
        · (conv => whnf); (repeat (first | (refine arith_i ⟨by omega, by omega⟩ ?_; conv => whnf) | (refine need_i (by first | omega | (simp only [List.length_append, List.length_cons, List.length_nil]; omega)) ?_; conv => whnf) | ((with_reducible refine branch_tt ?_); conv => whnf) | ((with_reducible refine branch_ff ?_); conv => whnf) | (with_reducible refine branch_not ?_)))
          exact ret_a (cs' := encR ⟨p.code * 10000 + c, p.code, c, 1 + x, p.variant, [100 * c + p.code, y], an⟩) ⟨rc_p rfl, rc_p rfl, rc_p rfl, rc_p rfl, rc_p rfl, rc_o, rc_o, trivial⟩ ⟨_, rfl⟩
      · (conv => whnf); (repeat (first | (refine arith_i ⟨by omega, by omega⟩ ?_; conv => whnf) | (refine need_i (by first | omega | (simp only [List.length_append, List.length_cons, List.length_nil]; omega)) ?_; conv => whnf) | ((with_reducible refine branch_tt ?_); conv => whnf) | ((with_reducible refine branch_ff ?_); conv => whnf) | (with_reducible refine branch_not ?_)))
        refine ⟨?_, trivial⟩
        (conv => whnf); (repeat (first | (refine arith_i ⟨by omega, by omega⟩ ?_; conv => whnf) | (refine need_i (by first | omega | (simp only [List.length_append, List.length_cons, List.length_nil]; omega)) ?_; conv => whnf) | ((with_reducible refine branch_tt ?_); conv => whnf) | ((with_reducible refine branch_ff ?_); conv => whnf) | (with_reducible refine branch_not ?_)))
        refine ⟨?_, trivial⟩
        (conv => whnf); (repeat (first | (refine arith_i ⟨by omega, by omega⟩ ?_; conv => whnf) | (refine need_i (by first | omega | (simp only [List.length_append, List.length_cons, List.length_nil]; omega)) ?_; conv => whnf) | ((with_reducible refine branch_tt ?_); conv => whnf) | ((with_reducible refine branch_ff ?_); conv => whnf) | (with_reducible refine branch_not ?_)))
        refine rest_i (mkSt [(0, .tape), (4, .ptr 4 0), (6, .ptr 6 0), (7, .ptr 7 0)] [(4, encPap p), (6, scr0), (7, [.int .i64 (p.code * 10000 + c), .int .i64 p.code, .int .i64 c, .int .i64 (1 + x), .int .i64 p.variant, .own 30 3 1 [[.int .i64 (100 * c + p.code)], [.int .i64 y]], .nil])] true) (le_mk ⟨rfl, rfl, rfl, rfl, trivial⟩ ⟨rfl, rfl, rfl, trivial⟩ rfl) ?_
        (conv => whnf); (repeat (first | (refine arith_i ⟨by omega, by omega⟩ ?_; conv => whnf) | (refine need_i (by first | omega | (simp only [List.length_append, List.length_cons, List.length_nil]; omega)) ?_; conv => whnf) | ((with_reducible refine branch_tt ?_); conv => whnf) | ((with_reducible refine branch_ff ?_); conv => whnf) | (with_reducible refine branch_not ?_)))
        refine loop_i (fun an : List Int => an.length ≤ p.parts.length) (fun an => mkSt [(0, .tape), (4, .ptr 4 0), (6, .ptr 6 0), (7, .ptr 7 0), (8, .int .i64 an.length)] [(4, encPap p), (6, scr0), (7, [.int .i64 (p.code * 10000 + c), .int .i64 p.code, .int .i64 c, .int .i64 (1 + x), .int .i64 p.variant, .own 30 3 1 [[.int .i64 (100 * c + p.code)], [.int .i64 y]], .own 200 3 1 (an.map encI)])] true) (fun an => p.parts.length - an.length) [] (Nat.zero_le _) (Le.trans (le_adoptBox 7 6 200 3 1 rfl rfl) (le_mk ⟨rfl, rfl, rfl, rfl, rfl, trivial⟩ ⟨rfl, rfl, rfl, trivial⟩ rfl)) ?_
        intro an ha
        have La : (an.map encI).length = an.length := List.length_map ..
        (conv => whnf); (repeat (first | (refine arith_i ⟨by omega, by omega⟩ ?_; conv => whnf) | (refine need_i (by first | omega | (simp only [List.length_append, List.length_cons, List.length_nil]; omega)) ?_; conv => whnf) | ((with_reducible refine branch_tt ?_); conv => whnf) | ((with_reducible refine branch_ff ?_); conv => whnf) | (with_reducible refine branch_not ?_)))
        refine branch_d (fun h => ?_) (fun h => ?_)
        · (conv => whnf); (repeat (first | (refine arith_i ⟨by omega, by omega⟩ ?_; conv => whnf) | (refine need_i (by first | omega | (simp only [List.length_append, List.length_cons, List.length_nil]; omega)) ?_; conv => whnf) | ((with_reducible refine branch_tt ?_); conv => whnf) | ((with_reducible refine branch_ff ?_); conv => whnf) | (with_reducible refine branch_not ?_)))
          refine idx_m (by omega) (by omega) fun t ht => ?_
          (conv => whnf); (repeat (first | (refine arith_i ⟨by omega, by omega⟩ ?_; conv => whnf) | (refine need_i (by first | omega | (simp only [List.length_append, List.length_cons, List.length_nil]; omega)) ?_; conv => whnf) | ((with_reducible refine branch_tt ?_); conv => whnf) | ((with_reducible refine branch_ff ?_); conv => whnf) | (with_reducible refine branch_not ?_)))
          refine branch_e (fun hk => ?_) (fun hk => ?_)
          · (conv => whnf); (repeat (first | (refine arith_i ⟨by omega, by omega⟩ ?_; conv => whnf) | (refine need_i (by first | omega | (simp only [List.length_append, List.length_cons, List.length_nil]; omega)) ?_; conv => whnf) | ((with_reducible refine branch_tt ?_); conv => whnf) | ((with_reducible refine branch_ff ?_); conv => whnf) | (with_reducible refine branch_not ?_)))
            refine idx_m (by omega) (by omega) fun t' ht' => ?_
            (conv => whnf); (repeat (first | (refine arith_i ⟨by omega, by omega⟩ ?_; conv => whnf) | (refine need_i (by first | omega | (simp only [List.length_append, List.length_cons, List.length_nil]; omega)) ?_; conv => whnf) | ((with_reducible refine branch_tt ?_); conv => whnf) | ((with_reducible refine branch_ff ?_); conv => whnf) | (with_reducible refine branch_not ?_)))
            refine call_i (pick_ok [t'.key, 0, 1, -1, -2] (by simp) (by simp)) fun r hr => ?_
            obtain ⟨u, rfl, -⟩ := hr
            (conv => whnf); (repeat (first | (refine arith_i ⟨by omega, by omega⟩ ?_; conv => whnf) | (refine need_i (by first | omega | (simp only [List.length_append, List.length_cons, List.length_nil]; omega)) ?_; conv => whnf) | ((with_reducible refine branch_tt ?_); conv => whnf) | ((with_reducible refine branch_ff ?_); conv => whnf) | (with_reducible refine branch_not ?_)))
            refine ⟨an ++ [u], by simp; omega, le_mk ⟨rfl, rfl, rfl, rfl, int_eq (by simp), trivial⟩ ⟨rfl, rfl, ?_, trivial⟩ rfl, by simp; omega⟩
            simp only [List.map_append, List.map_cons, List.map_nil]
            rfl
          · (conv => whnf); (repeat (first | (refine arith_i ⟨by omega, by omega⟩ ?_; conv => whnf) | (refine need_i (by first | omega | (simp only [List.length_append, List.length_cons, List.length_nil]; omega)) ?_; conv => whnf) | ((with_reducible refine branch_tt ?_); conv => whnf) | ((with_reducible refine branch_ff ?_); conv => whnf) | (with_reducible refine branch_not ?_)))
            refine ⟨an ++ [-1], by simp; omega, le_mk ⟨rfl, rfl, rfl, rfl, int_eq (by simp), trivial⟩ ⟨rfl, rfl, ?_, trivial⟩ rfl, by simp; omega⟩
            simp only [List.map_append, List.map_cons, List.map_nil]
            rfl
        · (conv => whnf); (repeat (first | (refine arith_i ⟨by omega, by omega⟩ ?_; conv => whnf) | (refine need_i (by first | omega | (simp only [List.length_append, List.length_cons, List.length_nil]; omega)) ?_; conv => whnf) | ((with_reducible refine branch_tt ?_); conv => whnf) | ((with_reducible refine branch_ff ?_); conv => whnf) | (with_reducible refine branch_not ?_)))
          exact ret_a (cs' := encR ⟨p.code * 10000 + c, p.code, c, 1 + x, p.variant, [100 * c + p.code, y], an⟩) ⟨rc_p rfl, rc_p rfl, rc_p rfl, rc_p rfl, rc_p rfl, rc_o, rc_o, trivial⟩ ⟨_, rfl⟩
    · (conv => whnf); (repeat (first | (refine arith_i ⟨by omega, by omega⟩ ?_; conv => whnf) | (refine need_i (by first | omega | (simp only [List.length_append, List.length_cons, List.length_nil]; omega)) ?_; conv => whnf) | ((with_reducible refine branch_tt ?_); conv => whnf) | ((with_reducible refine branch_ff ?_); conv => whnf) | (with_reducible refine branch_not ?_)))
      refine ⟨?_, trivial⟩
      (conv => whnf); (repeat (first | (refine arith_i ⟨by omega, by omega⟩ ?_; conv => whnf) | (refine need_i (by first | omega | (simp only [List.length_append, List.length_cons, List.length_nil]; omega)) ?_; conv => whnf) | ((with_reducible refine branch_tt ?_); conv => whnf) | ((with_reducible refine branch_ff ?_); conv => whnf) | (with_reducible refine branch_not ?_)))
      refine call_i (next_ok 3 (by omega)) fun r hr => ?_
      obtain ⟨y, rfl, -, hy⟩ := hr
      replace hy := hy (by omega)
      (conv => whnf); (repeat (first | (refine arith_i ⟨by omega, by omega⟩ ?_; conv => whnf) | (refine need_i (by first | omega | (simp only [List.length_append, List.length_cons, List.length_nil]; omega)) ?_; conv => whnf) | ((with_reducible refine branch_tt ?_); conv => whnf) | ((with_reducible refine branch_ff ?_); conv => whnf) | (with_reducible refine branch_not ?_)))
      refine ⟨?_, trivial⟩
      (conv => whnf); (repeat (first | (refine arith_i ⟨by omega, by omega⟩ ?_; conv => whnf) | (refine need_i (by first | omega | (simp only [List.length_append, List.length_cons, List.length_nil]; omega)) ?_; conv => whnf) | ((with_reducible refine branch_tt ?_); conv => whnf) | ((with_reducible refine branch_ff ?_); conv => whnf) | (with_reducible refine branch_not ?_)))
      refine ⟨?_, trivial⟩
      (conv => whnf); (repeat (first | (refine arith_i ⟨by omega, by omega⟩ ?_; conv => whnf) | (refine need_i (by first | omega | (simp only [List.length_append, List.length_cons, List.length_nil]; omega)) ?_; conv => whnf) | ((with_reducible refine branch_tt ?_); conv => whnf) | ((with_reducible refine branch_ff ?_); conv => whnf) | (with_reducible refine branch_not ?_)))
      refine rest_i (mkSt [(0, .tape), (4, .ptr 4 0), (6, .ptr 6 0), (7, .ptr 7 0)] [(4, encPap p), (6, scr0), (7, [.int .i64 (p.code * 10000 + c), .int .i64 p.code, .int .i64 c, .int .i64 (1 + x), .int .i64 p.variant, .own 30 3 1 [[.int .i64 (100 * c + p.code)], [.int .i64 y]], .nil])] true) (le_mk ⟨rfl, rfl, rfl, rfl, trivial⟩ ⟨rfl, rfl, rfl, trivial⟩ rfl) ?_
      (conv => whnf); (repeat (first | (refine arith_i ⟨by omega, by omega⟩ ?_; conv => whnf) | (refine need_i (by first | omega | (simp only [List.length_append, List.length_cons, List.length_nil]; omega)) ?_; conv => whnf) | ((with_reducible refine branch_tt ?_); conv => whnf) | ((with_reducible refine branch_ff ?_); conv => whnf) | (with_reducible refine branch_not ?_)))
      refine loop_i (fun an : List Int => an.length ≤ p.parts.length) (fun an => mkSt [(0, .tape), (4, .ptr 4 0), (6, .ptr 6 0), (7, .ptr 7 0), (8, .int .i64 an.length)] [(4, encPap p), (6, scr0), (7, [.int .i64 (p.code * 10000 + c), .int .i64 p.code, .int .i64 c, .int .i64 (1 + x), .int .i64 p.variant, .own 30 3 1 [[.int .i64 (100 * c + p.code)], [.int .i64 y]], .own 200 3 1 (an.map encI)])] true) (fun an => p.parts.length - an.length) [] (Nat.zero_le _) (Le.trans (le_adoptBox 7 6 200 3 1 rfl rfl) (le_mk ⟨rfl, rfl, rfl, rfl, rfl, trivial⟩ ⟨rfl, rfl, rfl, trivial⟩ rfl)) ?_
      intro an ha
      have La : (an.map encI).length = an.length := List.length_map ..
      (conv => whnf); (repeat (first | (refine arith_i ⟨by omega, by omega⟩ ?_; conv => whnf) | (refine need_i (by first | omega | (simp only [List.length_append, List.length_cons, List.length_nil]; omega)) ?_; conv => whnf) | ((with_reducible refine branch_tt ?_); conv => whnf) | ((with_reducible refine branch_ff ?_); conv => whnf) | (with_reducible refine branch_not ?_)))
      refine branch_d (fun h => ?_) (fun h => ?_)
      · (conv => whnf); (repeat (first | (refine arith_i ⟨by omega, by omega⟩ ?_; conv => whnf) | (refine need_i (by first | omega | (simp only [List.length_append, List.length_cons, List.length_nil]; omega)) ?_; conv => whnf) | ((with_reducible refine branch_tt ?_); conv => whnf) | ((with_reducible refine branch_ff ?_); conv => whnf) | (with_reducible refine branch_not ?_)))
        refine idx_m (by omega) (by omega) fun t ht => ?_
        (conv => whnf); (repeat (first | (refine arith_i ⟨by omega, by omega⟩ ?_; conv => whnf) | (refine need_i (by first | omega | (simp only [List.length_append, List.length_cons, List.length_nil]; omega)) ?_; conv => whnf) | ((with_reducible refine branch_tt ?_); conv => whnf) | ((with_reducible refine branch_ff ?_); conv => whnf) | (with_reducible refine branch_not ?_)))
        refine branch_e (fun hk => ?_) (fun hk => ?_)
        · (conv => whnf); (repeat (first | (refine arith_i ⟨by omega, by omega⟩ ?_; conv => whnf) | (refine need_i (by first | omega | (simp only [List.length_append, List.length_cons, List.length_nil]; omega)) ?_; conv => whnf) | ((with_reducible refine branch_tt ?_); conv => whnf) | ((with_reducible refine branch_ff ?_); conv => whnf) | (with_reducible refine branch_not ?_)))
          refine idx_m (by omega) (by omega) fun t' ht' => ?_
          (conv => whnf); (repeat (first | (refine arith_i ⟨by omega, by omega⟩ ?_; conv => whnf) | (refine need_i (by first | omega | (simp only [List.length_append, List.length_cons, List.length_nil]; omega)) ?_; conv => whnf) | ((with_reducible refine branch_tt ?_); conv => whnf) | ((with_reducible refine branch_ff ?_); conv => whnf) | (with_reducible refine branch_not ?_)))
          refine call_i (pick_ok [t'.key, 0, 1, -1, -2] (by simp) (by simp)) fun r hr => ?_
          obtain ⟨u, rfl, -⟩ := hr
          (conv => whnf); (repeat (first | (refine arith_i ⟨by omega, by omega⟩ ?_; conv => whnf) | (refine need_i (by first | omega | (simp only [List.length_append, List.length_cons, List.length_nil]; omega)) ?_; conv => whnf) | ((with_reducible refine branch_tt ?_); conv => whnf) | ((with_reducible refine branch_ff ?_); conv => whnf) | (with_reducible refine branch_not ?_)))
          refine ⟨an ++ [u], by simp; omega, le_mk ⟨rfl, rfl, rfl, rfl, int_eq (by simp), trivial⟩ ⟨rfl, rfl, ?_, trivial⟩ rfl, by simp; omega⟩
          simp only [List.map_append, List.map_cons, List.map_nil]
          rfl
        · (conv => whnf); (repeat (first | (refine arith_i ⟨by omega, by omega⟩ ?_; conv => whnf) | (refine need_i (by first | omega | (simp only [List.length_append, List.length_cons, List.length_nil]; omega)) ?_; conv => whnf) | ((with_reducible refine branch_tt ?_); conv => whnf) | ((with_reducible refine branch_ff ?_); conv => whnf) | (with_reducible refine branch_not ?_)))
          refine ⟨an ++ [-1], by simp; omega, le_mk ⟨rfl, rfl, rfl, rfl, int_eq (by simp), trivial⟩ ⟨rfl, rfl, ?_, trivial⟩ rfl, by simp; omega⟩
          simp only [List.map_append, List.map_cons, List.map_nil]
          rfl
      · (conv => whnf); (repeat (first | (refine arith_i ⟨by omega, by omega⟩ ?_; conv => whnf) | (refine need_i (by first | omega | (simp only [List.length_append, List.length_cons, List.length_nil]; omega)) ?_; conv => whnf) | ((with_reducible refine branch_tt ?_); conv => whnf) | ((with_reducible refine branch_ff ?_); conv => whnf) | (with_reducible refine branch_not ?_)))
        exact ret_a (cs' := encR ⟨p.code * 10000 + c, p.code, c, 1 + x, p.variant, [100 * c + p.code, y], an⟩) ⟨rc_p rfl, rc_p rfl, rc_p rfl, rc_p rfl, rc_p rfl, rc_o, rc_o, trivial⟩ ⟨_, rfl⟩
  · (conv => whnf); (repeat (first | (refine arith_i ⟨by omega, by omega⟩ ?_; conv => whnf) | (refine need_i (by first | omega | (simp only [List.length_append, List.length_cons, List.length_nil]; omega)) ?_; conv => whnf) | ((with_reducible refine branch_tt ?_); conv => whnf) | ((with_reducible refine branch_ff ?_); conv => whnf) | (with_reducible refine branch_not ?_)))
    refine ⟨?_, trivial⟩
    (conv => whnf); (repeat (first | (refine arith_i ⟨by omega, by omega⟩ ?_; conv => whnf) | (refine need_i (by first | omega | (simp only [List.length_append, List.length_cons, List.length_nil]; omega)) ?_; conv => whnf) | ((with_reducible refine branch_tt ?_); conv => whnf) | ((with_reducible refine branch_ff ?_); conv => whnf) | (with_reducible refine branch_not ?_)))
    refine call_i (next_ok 3 (by omega)) fun r hr => ?_
    obtain ⟨x, rfl, -, hx⟩ := hr
    replace hx := hx (by omega)
    (conv => whnf); (repeat (first | (refine arith_i ⟨by omega, by omega⟩ ?_; conv => whnf) | (refine need_i (by first | omega | (simp only [List.length_append, List.length_cons, List.length_nil]; omega)) ?_; conv => whnf) | ((with_reducible refine branch_tt ?_); conv => whnf) | ((with_reducible refine branch_ff ?_); conv => whnf) | (with_reducible refine branch_not ?_)))
    refine ⟨?_, trivial⟩
    (conv => whnf); (repeat (first | (refine arith_i ⟨by omega, by omega⟩ ?_; conv => whnf) | (refine need_i (by first | omega | (simp only [List.length_append, List.length_cons, List.length_nil]; omega)) ?_; conv => whnf) | ((with_reducible refine branch_tt ?_); conv => whnf) | ((with_reducible refine branch_ff ?_); conv => whnf) | (with_reducible refine branch_not ?_)))
    refine call_i (next_ok 3 (by omega)) fun r hr => ?_
    obtain ⟨y, rfl, -, hy⟩ := hr
    replace hy := hy (by omega)
    (conv => whnf); (repeat (first | (refine arith_i ⟨by omega, by omega⟩ ?_; conv => whnf) | (refine need_i (by first | omega | (simp only [List.length_append, List.length_cons, List.length_nil]; omega)) ?_; conv => whnf) | ((with_reducible refine branch_tt ?_); conv => whnf) | ((with_reducible refine branch_ff ?_); conv => whnf) | (with_reducible refine branch_not ?_)))
    refine ⟨?_, trivial⟩
    (conv => whnf); (repeat (first | (refine arith_i ⟨by omega, by omega⟩ ?_; conv => whnf) | (refine need_i (by first | omega | (simp only [List.length_append, List.length_cons, List.length_nil]; omega)) ?_; conv => whnf) | ((with_reducible refine branch_tt ?_); conv => whnf) | ((with_reducible refine branch_ff ?_); conv => whnf) | (with_reducible refine branch_not ?_)))
    refine ⟨?_, trivial⟩
    (conv => whnf); (repeat (first | (refine arith_i ⟨by omega, by omega⟩ ?_; conv => whnf) | (refine need_i (by first | omega | (simp only [List.length_append, List.length_cons, List.length_nil]; omega)) ?_; conv => whnf) | ((with_reducible refine branch_tt ?_); conv => whnf) | ((with_reducible refine branch_ff ?_); conv => whnf) | (with_reducible refine branch_not ?_)))
    refine rest_i (mkSt [(0, .tape), (4, .ptr 4 0), (6, .ptr 6 0), (7, .ptr 7 0)] [(4, encPap p), (6, scr0), (7, [.int .i64 (p.code * 10000 + c), .int .i64 p.code, .int .i64 c, .int .i64 (1 + x), .int .i64 p.variant, .own 30 3 1 [[.int .i64 (100 * c + p.code)], [.int .i64 y]], .nil])] true) (le_mk ⟨rfl, rfl, rfl, rfl, trivial⟩ ⟨rfl, rfl, rfl, trivial⟩ rfl) ?_
    (conv => whnf); (repeat (first | (refine arith_i ⟨by omega, by omega⟩ ?_; conv => whnf) | (refine need_i (by first | omega | (simp only [List.length_append, List.length_cons, List.length_nil]; omega)) ?_; conv => whnf) | ((with_reducible refine branch_tt ?_); conv => whnf) | ((with_reducible refine branch_ff ?_); conv => whnf) | (with_reducible refine branch_not ?_)))
    refine loop_i (fun an : List Int => an.length ≤ p.parts.length) (fun an => mkSt [(0, .tape), (4, .ptr 4 0), (6, .ptr 6 0), (7, .ptr 7 0), (8, .int .i64 an.length)] [(4, encPap p), (6, scr0), (7, [.int .i64 (p.code * 10000 + c), .int .i64 p.code, .int .i64 c, .int .i64 (1 + x), .int .i64 p.variant, .own 30 3 1 [[.int .i64 (100 * c + p.code)], [.int .i64 y]], .own 200 3 1 (an.map encI)])] true) (fun an => p.parts.length - an.length) [] (Nat.zero_le _) (Le.trans (le_adoptBox 7 6 200 3 1 rfl rfl) (le_mk ⟨rfl, rfl, rfl, rfl, rfl, trivial⟩ ⟨rfl, rfl, rfl, trivial⟩ rfl)) ?_
    intro an ha
    have La : (an.map encI).length = an.length := List.length_map ..
    (conv => whnf); (repeat (first | (refine arith_i ⟨by omega, by omega⟩ ?_; conv => whnf) | (refine need_i (by first | omega | (simp only [List.length_append, List.length_cons, List.length_nil]; omega)) ?_; conv => whnf) | ((with_reducible refine branch_tt ?_); conv => whnf) | ((with_reducible refine branch_ff ?_); conv => whnf) | (with_reducible refine branch_not ?_)))
    refine branch_d (fun h => ?_) (fun h => ?_)
    · (conv => whnf); (repeat (first | (refine arith_i ⟨by omega, by omega⟩ ?_; conv => whnf) | (refine need_i (by first | omega | (simp only [List.length_append, List.length_cons, List.length_nil]; omega)) ?_; conv => whnf) | ((with_reducible refine branch_tt ?_); conv => whnf) | ((with_reducible refine branch_ff ?_); conv => whnf) | (with_reducible refine branch_not ?_)))
      refine idx_m (by omega) (by omega) fun t ht => ?_
      (conv => whnf); (repeat (first | (refine arith_i ⟨by omega, by omega⟩ ?_; conv => whnf) | (refine need_i (by first | omega | (simp only [List.length_append, List.length_cons, List.length_nil]; omega)) ?_; conv => whnf) | ((with_reducible refine branch_tt ?_); conv => whnf) | ((with_reducible refine branch_ff ?_); conv => whnf) | (with_reducible refine branch_not ?_)))
      refine branch_e (fun hk => ?_) (fun hk => ?_)
      · (conv => whnf); (repeat (first | (refine arith_i ⟨by omega, by omega⟩ ?_; conv => whnf) | (refine need_i (by first | omega | (simp only [List.length_append, List.length_cons, List.length_nil]; omega)) ?_; conv => whnf) | ((with_reducible refine branch_tt ?_); conv => whnf) | ((with_reducible refine branch_ff ?_); conv => whnf) | (with_reducible refine branch_not ?_)))
        refine idx_m (by omega) (by omega) fun t' ht' => ?_
        (conv => whnf); (repeat (first | (refine arith_i ⟨by omega, by omega⟩ ?_; conv => whnf) | (refine need_i (by first | omega | (simp only [List.length_append, List.length_cons, List.length_nil]; omega)) ?_; conv => whnf) | ((with_reducible refine branch_tt ?_); conv => whnf) | ((with_reducible refine branch_ff ?_); conv => whnf) | (with_reducible refine branch_not ?_)))
        refine call_i (pick_ok [t'.key, 0, 1, -1, -2] (by simp) (by simp)) fun r hr => ?_
        obtain ⟨u, rfl, -⟩ := hr
        (conv => whnf); (repeat (first | (refine arith_i ⟨by omega, by omega⟩ ?_; conv => whnf) | (refine need_i (by first | omega | (simp only [List.length_append, List.length_cons, List.length_nil]; omega)) ?_; conv => whnf) | ((with_reducible refine branch_tt ?_); conv => whnf) | ((with_reducible refine branch_ff ?_); conv => whnf) | (with_reducible refine branch_not ?_)))
        refine ⟨an ++ [u], by simp; omega, le_mk ⟨rfl, rfl, rfl, rfl, int_eq (by simp), trivial⟩ ⟨rfl, rfl, ?_, trivial⟩ rfl, by simp; omega⟩
        simp only [List.map_append, List.map_cons, List.map_nil]
        rfl
      · (conv => whnf); (repeat (first | (refine arith_i ⟨by omega, by omega⟩ ?_; conv => whnf) | (refine need_i (by first | omega | (simp only [List.length_append, List.length_cons, List.length_nil]; omega)) ?_; conv => whnf) | ((with_reducible refine branch_tt ?_); conv => whnf) | ((with_reducible refine branch_ff ?_); conv => whnf) | (with_reducible refine branch_not ?_)))
        refine ⟨an ++ [-1], by simp; omega, le_mk ⟨rfl, rfl, rfl, rfl, int_eq (by simp), trivial⟩ ⟨rfl, rfl, ?_, trivial⟩ rfl, by simp; omega⟩
        simp only [List.map_append, List.map_cons, List.map_nil]
        rfl
    · (conv => whnf); (repeat (first | (refine arith_i ⟨by omega, by omega⟩ ?_; conv => whnf) | (refine need_i (by first | omega | (simp only [List.length_append, List.length_cons, List.length_nil]; omega)) ?_; conv => whnf) | ((with_reducible refine branch_tt ?_); conv => whnf) | ((with_reducible refine branch_ff ?_); conv => whnf) | (with_reducible refine branch_not ?_)))
      exact ret_a (cs' := encR ⟨p.code * 10000 + c, p.code, c, 1 + x, p.variant, [100 * c + p.code, y], an⟩) ⟨rc_p rfl, rc_p rfl, rc_p rfl, rc_p rfl, rc_p rfl, rc_o, rc_o, trivial⟩ ⟨_, rfl⟩
end Go.Proofs.Ytdoemjphffnmaaa
