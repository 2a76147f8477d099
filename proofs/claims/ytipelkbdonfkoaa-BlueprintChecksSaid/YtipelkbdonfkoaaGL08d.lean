/- Layer 8 by the interpreter: the generator of programs, without a mistake. -/
import Derived.Test.YtipelkbdonfkoaaGL08c
namespace Go.Proofs.Ytipelkbdonfkoaa
set_option linter.unusedVariables false
set_option linter.unusedSimpArgs false
set_option linter.unnecessarySimpa false
set_option linter.unusedSectionVars false
set_option maxRecDepth 10000
open Go.RowKit

def costL : List Int := [0, 1, 2, 3, 5, 7, 10000]
def coefL : List Int := [0, 1, 1, 2, 3, -1, -2, 4]
def RowG (n : Nat) (r : Row) : Prop := r.coefs.length = n ∧ (∀ x ∈ r.coefs, x ∈ coefL) ∧ (-2 ≤ r.least ∧ r.least ≤ 4) ∧ (2 ≤ r.most ∧ r.most ≤ 9)
structure ProgG (m : Int) (P : Prog) : Prop where
  len : (P.costs.length : Int) ≤ max m 0
  cost : ∀ x ∈ P.costs, x ∈ costL
  rows : P.rows.length ≤ 3
  row : ∀ r ∈ P.rows, RowG P.costs.length r
theorem box_snoc {α : Type} {enc : α → List AV} {t e z : Nat} {xs : List α} (pre post : List AV) (x : α) : some (pre ++ AV.own t e z (xs.map enc ++ [enc x]) :: post) = some (pre ++ AV.own t e z ((xs ++ [x]).map enc) :: post) := by simp
theorem snoc_in {α : Type} {p : α → Prop} {xs : List α} {x : α} (h : ∀ y ∈ xs, p y) (hx : p x) : ∀ y ∈ xs ++ [x], p y := fun y hy => by
  rcases List.mem_append.1 hy with h' | h'
  · exact h y h'
  · obtain rfl := List.mem_singleton.1 h'
    exact hx
theorem program_ok (m : Int) (hm : 0 ≤ m ∧ m ≤ 1000) : Good Try.prog TT true 13 [.tape, .int .i64 m, .int .i64 0] (fun r => ∃ P, r = progV P ∧ ProgG m P) := by
  refine good_of mixed tabOk Try.func13 rfl rfl Try.ntmps13 Try.results13 rfl rfl ?_
  (conv => whnf); (repeat (first | (refine arith_i ⟨by omega, by omega⟩ ?_; conv => whnf) | (refine need_i (by first | omega | (simp only [List.length_cons, List.length_nil]; omega)) ?_; conv => whnf) | ((with_reducible refine branch_tt ?_); conv => whnf) | ((with_reducible refine branch_ff ?_); conv => whnf) | (with_reducible refine branch_not ?_)))
  refine call_i (range_ok 0 m (by omega) (by omega)) fun r hr => ?_
  obtain ⟨k, rfl, h1, h2⟩ := hr
  have hk := h2 hm.1
  (conv => whnf); (repeat (first | (refine arith_i ⟨by omega, by omega⟩ ?_; conv => whnf) | (refine need_i (by first | omega | (simp only [List.length_cons, List.length_nil]; omega)) ?_; conv => whnf) | ((with_reducible refine branch_tt ?_); conv => whnf) | ((with_reducible refine branch_ff ?_); conv => whnf) | (with_reducible refine branch_not ?_)))
  refine loop_i (fun cs : List Int => (cs.length : Int) ≤ k ∧ ∀ x ∈ cs, x ∈ costL) (fun cs => mkSt [(0, .tape), (2, .int .i64 0), (6, .ptr 6 0), (7, .ptr 7 0), (8, .int .i64 k), (9, .int .i64 cs.length)] [(6, [.nil, .nil]), (7, [.own 7 3 1 (cs.map encI), .nil])] true) (fun cs => k.toNat - cs.length) [] ⟨by simp; omega, by simp⟩ (Le.trans (le_adoptBox 7 0 7 3 1 rfl rfl) (le_mk ⟨rfl, rfl, rfl, rfl, rfl, rfl, trivial⟩ ⟨rfl, rfl, trivial⟩ rfl)) ?_
  rintro cs ⟨hcl, hcs⟩
  have LC : (cs.map encI).length = cs.length := List.length_map ..
  (conv => whnf); (repeat (first | (refine arith_i ⟨by omega, by omega⟩ ?_; conv => whnf) | (refine need_i (by first | omega | (simp only [List.length_cons, List.length_nil]; omega)) ?_; conv => whnf) | ((with_reducible refine branch_tt ?_); conv => whnf) | ((with_reducible refine branch_ff ?_); conv => whnf) | (with_reducible refine branch_not ?_)))
  refine branch_d (fun h => ?_) (fun h => ?_)
  · (conv => whnf); (repeat (first | (refine arith_i ⟨by omega, by omega⟩ ?_; conv => whnf) | (refine need_i (by first | omega | (simp only [List.length_cons, List.length_nil]; omega)) ?_; conv => whnf) | ((with_reducible refine branch_tt ?_); conv => whnf) | ((with_reducible refine branch_ff ?_); conv => whnf) | (with_reducible refine branch_not ?_)))
    refine draw_i 8 (.take 0 (.take 1 (.take 2 (.alt 3 (.alt 4 (.alt 5 (.alt 6 (.take 7 (.alt 8 .done .stop)) .stop) .stop) .stop) .stop)))) (by decide +kernel) ?_
    (conv => whnf); (repeat (first | (refine arith_i ⟨by omega, by omega⟩ ?_; conv => whnf) | (refine need_i (by first | omega | (simp only [List.length_cons, List.length_nil]; omega)) ?_; conv => whnf) | ((with_reducible refine branch_tt ?_); conv => whnf) | ((with_reducible refine branch_ff ?_); conv => whnf) | (with_reducible refine branch_not ?_)))
    refine ⟨?_, trivial⟩
    (conv => whnf); (repeat (first | (refine arith_i ⟨by omega, by omega⟩ ?_; conv => whnf) | (refine need_i (by first | omega | (simp only [List.length_cons, List.length_nil]; omega)) ?_; conv => whnf) | ((with_reducible refine branch_tt ?_); conv => whnf) | ((with_reducible refine branch_ff ?_); conv => whnf) | (with_reducible refine branch_not ?_)))
    refine ⟨?_, trivial⟩
    (conv => whnf); (repeat (first | (refine arith_i ⟨by omega, by omega⟩ ?_; conv => whnf) | (refine need_i (by first | omega | (simp only [List.length_cons, List.length_nil]; omega)) ?_; conv => whnf) | ((with_reducible refine branch_tt ?_); conv => whnf) | ((with_reducible refine branch_ff ?_); conv => whnf) | (with_reducible refine branch_not ?_)))
    refine call_i (pick_ok costL (by decide) (by decide)) fun r hr => ?_
    obtain ⟨x, rfl, hx⟩ := hr
    (conv => whnf); (repeat (first | (refine arith_i ⟨by omega, by omega⟩ ?_; conv => whnf) | (refine need_i (by first | omega | (simp only [List.length_cons, List.length_nil]; omega)) ?_; conv => whnf) | ((with_reducible refine branch_tt ?_); conv => whnf) | ((with_reducible refine branch_ff ?_); conv => whnf) | (with_reducible refine branch_not ?_)))
    refine ⟨?_, trivial⟩
    (conv => whnf); (repeat (first | (refine arith_i ⟨by omega, by omega⟩ ?_; conv => whnf) | (refine need_i (by first | omega | (simp only [List.length_cons, List.length_nil]; omega)) ?_; conv => whnf) | ((with_reducible refine branch_tt ?_); conv => whnf) | ((with_reducible refine branch_ff ?_); conv => whnf) | (with_reducible refine branch_not ?_)))
    refine ⟨?_, trivial⟩
    (conv => whnf); (repeat (first | (refine arith_i ⟨by omega, by omega⟩ ?_; conv => whnf) | (refine need_i (by first | omega | (simp only [List.length_cons, List.length_nil]; omega)) ?_; conv => whnf) | ((with_reducible refine branch_tt ?_); conv => whnf) | ((with_reducible refine branch_ff ?_); conv => whnf) | (with_reducible refine branch_not ?_)))
    refine ⟨?_, trivial⟩
    (conv => whnf); (repeat (first | (refine arith_i ⟨by omega, by omega⟩ ?_; conv => whnf) | (refine need_i (by first | omega | (simp only [List.length_cons, List.length_nil]; omega)) ?_; conv => whnf) | ((with_reducible refine branch_tt ?_); conv => whnf) | ((with_reducible refine branch_ff ?_); conv => whnf) | (with_reducible refine branch_not ?_)))
    exact ⟨cs ++ [x], ⟨by simp; omega, snoc_in hcs hx⟩, le_mk ⟨rfl, rfl, rfl, rfl, rfl, int_eq (by simp), trivial⟩ ⟨rfl, box_snoc (enc := encI) [] [.nil] x, trivial⟩ rfl, by simp; omega⟩
  · (conv => whnf); (repeat (first | (refine arith_i ⟨by omega, by omega⟩ ?_; conv => whnf) | (refine need_i (by first | omega | (simp only [List.length_cons, List.length_nil]; omega)) ?_; conv => whnf) | ((with_reducible refine branch_tt ?_); conv => whnf) | ((with_reducible refine branch_ff ?_); conv => whnf) | (with_reducible refine branch_not ?_)))
    have ek : k = cs.length := by omega
    refine call_i (next_ok 4 (by omega)) fun r hr => ?_
    obtain ⟨m0, rfl, -, h3⟩ := hr
    have hm0 := h3 (by omega)
    (conv => whnf); (repeat (first | (refine arith_i ⟨by omega, by omega⟩ ?_; conv => whnf) | (refine need_i (by first | omega | (simp only [List.length_cons, List.length_nil]; omega)) ?_; conv => whnf) | ((with_reducible refine branch_tt ?_); conv => whnf) | ((with_reducible refine branch_ff ?_); conv => whnf) | (with_reducible refine branch_not ?_)))
    refine loop_i (fun rs : List Row => (rs.length : Int) ≤ m0 ∧ ∀ r ∈ rs, RowG cs.length r) (fun rs => mkSt [(0, .tape), (2, .int .i64 0), (6, .ptr 6 0), (7, .ptr 7 0), (8, .int .i64 k), (10, .int .i64 (m0 - rs.length))] [(6, [.nil, .nil]), (7, [.own 7 3 1 (cs.map encI), .own 8 32 3 (rs.map encRow)])] true) (fun rs => m0.toNat - rs.length) [] ⟨by simp; omega, by simp⟩ (Le.trans (le_adoptBox 7 1 8 32 3 rfl rfl) (le_mk ⟨rfl, rfl, rfl, rfl, rfl, int_eq (by simp), trivial⟩ ⟨rfl, rfl, trivial⟩ rfl)) ?_
    rintro rs ⟨hrl, hrs⟩
    have LR : (rs.map encRow).length = rs.length := List.length_map ..
    (conv => whnf); (repeat (first | (refine arith_i ⟨by omega, by omega⟩ ?_; conv => whnf) | (refine need_i (by first | omega | (simp only [List.length_cons, List.length_nil]; omega)) ?_; conv => whnf) | ((with_reducible refine branch_tt ?_); conv => whnf) | ((with_reducible refine branch_ff ?_); conv => whnf) | (with_reducible refine branch_not ?_)))
    refine branch_d (fun h' => ?_) (fun h' => ?_)
    · (conv => whnf); (repeat (first | (refine arith_i ⟨by omega, by omega⟩ ?_; conv => whnf) | (refine need_i (by first | omega | (simp only [List.length_cons, List.length_nil]; omega)) ?_; conv => whnf) | ((with_reducible refine branch_tt ?_); conv => whnf) | ((with_reducible refine branch_ff ?_); conv => whnf) | (with_reducible refine branch_not ?_)))
      refine call_i (range_ok (-2) 4 (by omega) (by omega)) fun r hr => ?_
      obtain ⟨lo, rfl, -, hlo⟩ := hr
      (conv => whnf); (repeat (first | (refine arith_i ⟨by omega, by omega⟩ ?_; conv => whnf) | (refine need_i (by first | omega | (simp only [List.length_cons, List.length_nil]; omega)) ?_; conv => whnf) | ((with_reducible refine branch_tt ?_); conv => whnf) | ((with_reducible refine branch_ff ?_); conv => whnf) | (with_reducible refine branch_not ?_)))
      refine call_i (range_ok 2 9 (by omega) (by omega)) fun r hr => ?_
      obtain ⟨hi, rfl, -, hhi⟩ := hr
      (conv => whnf); (repeat (first | (refine arith_i ⟨by omega, by omega⟩ ?_; conv => whnf) | (refine need_i (by first | omega | (simp only [List.length_cons, List.length_nil]; omega)) ?_; conv => whnf) | ((with_reducible refine branch_tt ?_); conv => whnf) | ((with_reducible refine branch_ff ?_); conv => whnf) | (with_reducible refine branch_not ?_)))
      refine loop_i (fun ds : List Int => (ds.length : Int) ≤ k ∧ ∀ x ∈ ds, x ∈ coefL) (fun ds => mkSt [(0, .tape), (2, .int .i64 0), (6, .ptr 6 0), (7, .ptr 7 0), (8, .int .i64 k), (10, .int .i64 (m0 - rs.length)), (11, .ptr 11 0), (12, .int .i64 ds.length)] [(6, [.nil, .nil]), (7, [.own 7 3 1 (cs.map encI), .own 8 32 3 (rs.map encRow)]), (11, [.own 9 3 1 (ds.map encI), .int .i64 lo, .int .i64 hi])] true) (fun ds => k.toNat - ds.length) [] ⟨by simp; omega, by simp⟩ (Le.trans (le_adoptBox 11 0 9 3 1 rfl rfl) (le_mk ⟨rfl, rfl, rfl, rfl, rfl, rfl, rfl, rfl, trivial⟩ ⟨rfl, rfl, rfl, trivial⟩ rfl)) ?_
      rintro ds ⟨hdl, hds⟩
      have LD : (ds.map encI).length = ds.length := List.length_map ..
      (conv => whnf); (repeat (first | (refine arith_i ⟨by omega, by omega⟩ ?_; conv => whnf) | (refine need_i (by first | omega | (simp only [List.length_cons, List.length_nil]; omega)) ?_; conv => whnf) | ((with_reducible refine branch_tt ?_); conv => whnf) | ((with_reducible refine branch_ff ?_); conv => whnf) | (with_reducible refine branch_not ?_)))
      refine branch_d (fun h4 => ?_) (fun h4 => ?_)
      · (conv => whnf); (repeat (first | (refine arith_i ⟨by omega, by omega⟩ ?_; conv => whnf) | (refine need_i (by first | omega | (simp only [List.length_cons, List.length_nil]; omega)) ?_; conv => whnf) | ((with_reducible refine branch_tt ?_); conv => whnf) | ((with_reducible refine branch_ff ?_); conv => whnf) | (with_reducible refine branch_not ?_)))
        refine draw_i 8 (.take 0 (.take 1 (.take 2 (.alt 3 (.alt 4 (.alt 5 (.alt 6 (.take 7 (.alt 8 .done .stop)) .stop) .stop) .stop) .stop)))) (by decide +kernel) ?_
        (conv => whnf); (repeat (first | (refine arith_i ⟨by omega, by omega⟩ ?_; conv => whnf) | (refine need_i (by first | omega | (simp only [List.length_cons, List.length_nil]; omega)) ?_; conv => whnf) | ((with_reducible refine branch_tt ?_); conv => whnf) | ((with_reducible refine branch_ff ?_); conv => whnf) | (with_reducible refine branch_not ?_)))
        refine ⟨?_, trivial⟩
        (conv => whnf); (repeat (first | (refine arith_i ⟨by omega, by omega⟩ ?_; conv => whnf) | (refine need_i (by first | omega | (simp only [List.length_cons, List.length_nil]; omega)) ?_; conv => whnf) | ((with_reducible refine branch_tt ?_); conv => whnf) | ((with_reducible refine branch_ff ?_); conv => whnf) | (with_reducible refine branch_not ?_)))
        refine ⟨?_, trivial⟩
        (conv => whnf); (repeat (first | (refine arith_i ⟨by omega, by omega⟩ ?_; conv => whnf) | (refine need_i (by first | omega | (simp only [List.length_cons, List.length_nil]; omega)) ?_; conv => whnf) | ((with_reducible refine branch_tt ?_); conv => whnf) | ((with_reducible refine branch_ff ?_); conv => whnf) | (with_reducible refine branch_not ?_)))
        refine call_i (pick_ok coefL (by decide) (by decide)) fun r hr => ?_
        obtain ⟨x, rfl, hx⟩ := hr
        (conv => whnf); (repeat (first | (refine arith_i ⟨by omega, by omega⟩ ?_; conv => whnf) | (refine need_i (by first | omega | (simp only [List.length_cons, List.length_nil]; omega)) ?_; conv => whnf) | ((with_reducible refine branch_tt ?_); conv => whnf) | ((with_reducible refine branch_ff ?_); conv => whnf) | (with_reducible refine branch_not ?_)))
        refine ⟨?_, trivial⟩
        (conv => whnf); (repeat (first | (refine arith_i ⟨by omega, by omega⟩ ?_; conv => whnf) | (refine need_i (by first | omega | (simp only [List.length_cons, List.length_nil]; omega)) ?_; conv => whnf) | ((with_reducible refine branch_tt ?_); conv => whnf) | ((with_reducible refine branch_ff ?_); conv => whnf) | (with_reducible refine branch_not ?_)))
        refine ⟨?_, trivial⟩
        (conv => whnf); (repeat (first | (refine arith_i ⟨by omega, by omega⟩ ?_; conv => whnf) | (refine need_i (by first | omega | (simp only [List.length_cons, List.length_nil]; omega)) ?_; conv => whnf) | ((with_reducible refine branch_tt ?_); conv => whnf) | ((with_reducible refine branch_ff ?_); conv => whnf) | (with_reducible refine branch_not ?_)))
        refine ⟨?_, trivial⟩
        (conv => whnf); (repeat (first | (refine arith_i ⟨by omega, by omega⟩ ?_; conv => whnf) | (refine need_i (by first | omega | (simp only [List.length_cons, List.length_nil]; omega)) ?_; conv => whnf) | ((with_reducible refine branch_tt ?_); conv => whnf) | ((with_reducible refine branch_ff ?_); conv => whnf) | (with_reducible refine branch_not ?_)))
        exact ⟨ds ++ [x], ⟨by simp; omega, snoc_in hds hx⟩, le_mk ⟨rfl, rfl, rfl, rfl, rfl, rfl, rfl, int_eq (by simp), trivial⟩ ⟨rfl, rfl, box_snoc (enc := encI) [] [.int .i64 lo, .int .i64 hi] x, trivial⟩ rfl, by simp; omega⟩
      · (conv => whnf); (repeat (first | (refine arith_i ⟨by omega, by omega⟩ ?_; conv => whnf) | (refine need_i (by first | omega | (simp only [List.length_cons, List.length_nil]; omega)) ?_; conv => whnf) | ((with_reducible refine branch_tt ?_); conv => whnf) | ((with_reducible refine branch_ff ?_); conv => whnf) | (with_reducible refine branch_not ?_)))
        have ed : ds.length = cs.length := by omega
        refine ⟨rs ++ [⟨ds, lo, hi⟩], ⟨by simp; omega, fun r hr => ?_⟩, le_mk ⟨rfl, rfl, rfl, rfl, rfl, int_eq (by simp; omega), trivial⟩ ⟨rfl, ?_, trivial⟩ rfl, by simp; omega⟩
        · rcases List.mem_append.1 hr with h | h
          · exact hrs r h
          · obtain rfl := List.mem_singleton.1 h
            exact ⟨ed, hds, hlo (by omega), hhi (by omega)⟩
        · exact box_snoc (enc := encRow) [.own 7 3 1 (cs.map encI)] [] (⟨ds, lo, hi⟩ : Row)
    · (conv => whnf); (repeat (first | (refine arith_i ⟨by omega, by omega⟩ ?_; conv => whnf) | (refine need_i (by first | omega | (simp only [List.length_cons, List.length_nil]; omega)) ?_; conv => whnf) | ((with_reducible refine branch_tt ?_); conv => whnf) | ((with_reducible refine branch_ff ?_); conv => whnf) | (with_reducible refine branch_not ?_)))
      refine branch_d (fun h0 => by omega) (fun h0 => ?_)
      (conv => whnf); (repeat (first | (refine arith_i ⟨by omega, by omega⟩ ?_; conv => whnf) | (refine need_i (by first | omega | (simp only [List.length_cons, List.length_nil]; omega)) ?_; conv => whnf) | ((with_reducible refine branch_tt ?_); conv => whnf) | ((with_reducible refine branch_ff ?_); conv => whnf) | (with_reducible refine branch_not ?_)))
      exact ret_a (cs := [.own 7 3 1 (cs.map encI), .own 8 32 3 (rs.map encRow)]) (cs' := [ints cs, rowsV rs]) ⟨rc_o, rc_o, trivial⟩ ⟨⟨cs, rs⟩, rfl, ⟨by show (cs.length : Int) ≤ _; omega, hcs, by show rs.length ≤ 3; omega, hrs⟩⟩
theorem progG_valid {m : Int} {P : Prog} (h : ProgG m P) (hm : m ≤ 12) : validB P = true := by
  have hl := h.len
  have h1 : P.costs.all costB = true := List.all_eq_true.2 fun x hx => by
    have := h.cost x hx
    simp only [costL, List.mem_cons, List.not_mem_nil, or_false] at this
    rw [costB_iff]; omega
  have h2 : P.rows.all (rowB P.costs.length) = true := List.all_eq_true.2 fun r hr => by
    obtain ⟨a, b, c, d⟩ := h.row r hr
    have e : validCoefsB r.coefs = true := List.all_eq_true.2 fun x hx => by
      have := b x hx
      simp only [coefL, List.mem_cons, List.not_mem_nil, or_false] at this
      rw [coefB_iff]; omega
    have e1 : boundB r.least = true := boundB_iff.2 (by omega)
    have e2 : boundB r.most = true := boundB_iff.2 (by omega)
    simp [rowB, a, e, e1, e2]
  have := h.rows
  simp only [validB, h1, h2, Bool.and_true, Bool.and_eq_true, decide_eq_true_eq]
  omega
end Go.Proofs.Ytipelkbdonfkoaa
