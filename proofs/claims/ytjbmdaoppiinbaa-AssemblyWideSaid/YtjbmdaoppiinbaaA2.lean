/- Several texts in one: GL09a, GL09b, Pl05, GL09c, GL09d, GA, GL08r, Pl10, GL00. -/
import Derived.Test.YtjbmdaoppiinbaaA1
import Derived.Test.YtjbmdaoppiinbaaMA
/- Layer 9 by the interpreter: states, nodes, rounding up. -/
section
namespace Go.Proofs.Ytjbmdaoppiinbaa
set_option linter.unusedVariables false
set_option linter.unusedSimpArgs false
set_option linter.unnecessarySimpa false
set_option linter.unusedSectionVars false
set_option maxRecDepth 10000
open Go.RowKit

structure Nd where
  kind : Int
  var : Int
  zero : Int
  one : Int
  row : Int
  num : Int
  den : Int
def encN (n : Nd) : List AV := [.int .i64 n.kind, .int .i64 n.var, .int .i64 n.zero, .int .i64 n.one, .int .i64 n.row, .int .i64 n.num, .int .i64 n.den]
def ndsV (l : List Nd) : AV := .lst 7 (l.map encN)
def tri9 (x : Int) : Bool := decide (-1 ≤ x) && decide (x ≤ 1)
def stOB (st : List Int) (n : Int) : Bool := decide ((st.length : Int) = n) && st.all tri9
theorem stO_bad {st : List Int} {n : Int} {k : Nat} {x : Int} (h : st[k]? = some x) (hb : tri9 x = false) : stOB st n = false := by
  unfold stOB
  rw [Bool.and_eq_false_iff]; right
  rw [List.all_eq_false]
  exact ⟨x, List.mem_of_getElem? h, by simp [hb]⟩
theorem stO_good {st : List Int} {n : Int} (hn : (st.length : Int) = n) {k : Nat} (hk : st.length ≤ k) (h : ∀ (i : Nat) (x : Int), i < k → st[i]? = some x → tri9 x = true) : stOB st n = true := by
  unfold stOB
  rw [Bool.and_eq_true]
  refine ⟨by simp [hn], ?_⟩
  rw [List.all_eq_true]
  intro x hx
  obtain ⟨i, hi, e⟩ := List.mem_iff_getElem.1 hx
  exact h i x (by omega) (by rw [← e]; exact List.getElem?_eq_getElem hi)
theorem oState_ok (st : List Int) (n : Int) (hl : st.length ≤ 1000000) : Good Try.prog TT false 34 [ints st, .int .i64 n] (· = .bool (stOB st n)) := by
  have L : (st.map encI).length = st.length := List.length_map ..
  refine good_of mixed tabOk Try.func34 rfl rfl Try.ntmps34 Try.results34 rfl rfl ?_
  (conv => whnf); (repeat (first | (refine arith_i ⟨by omega, by omega⟩ ?_; conv => whnf) | (refine need_i (by first | omega | (simp only [List.length_append, List.length_cons, List.length_nil]; omega)) ?_; conv => whnf) | ((with_reducible first | refine branch_tt ?_ | refine branch_ff ?_); conv => whnf) | (with_reducible refine branch_not ?_) | ((with_reducible first | refine slc_e ?_ | refine callS_a ?_ | refine bld_a ?_ | refine own_e ?_ | refine mkmap_b ?_); conv => whnf)))
  refine branch_n (fun h => ?_) (fun h => ?_)
  · (conv => whnf); (repeat (first | (refine arith_i ⟨by omega, by omega⟩ ?_; conv => whnf) | (refine need_i (by first | omega | (simp only [List.length_append, List.length_cons, List.length_nil]; omega)) ?_; conv => whnf) | ((with_reducible first | refine branch_tt ?_ | refine branch_ff ?_); conv => whnf) | (with_reducible refine branch_not ?_) | ((with_reducible first | refine slc_e ?_ | refine callS_a ?_ | refine bld_a ?_ | refine own_e ?_ | refine mkmap_b ?_); conv => whnf)))
    exact ret_p rfl (bool_eq (by simp [stOB]; omega))
  · (conv => whnf); (repeat (first | (refine arith_i ⟨by omega, by omega⟩ ?_; conv => whnf) | (refine need_i (by first | omega | (simp only [List.length_append, List.length_cons, List.length_nil]; omega)) ?_; conv => whnf) | ((with_reducible first | refine branch_tt ?_ | refine branch_ff ?_); conv => whnf) | (with_reducible refine branch_not ?_) | ((with_reducible first | refine slc_e ?_ | refine callS_a ?_ | refine bld_a ?_ | refine own_e ?_ | refine mkmap_b ?_); conv => whnf)))
    refine loop_i (fun k : Nat => k ≤ st.length ∧ ∀ (i : Nat) (x : Int), i < k → st[i]? = some x → tri9 x = true) (fun k => mkSt [(11, ints st), (12, .int .i64 (st.map encI).length), (13, .int .i64 k)] [] false) (fun k => st.length - k) 0 ⟨Nat.zero_le _, nofun⟩ (le_mk ⟨rfl, rfl, rfl, trivial⟩ trivial rfl) ?_
    rintro k ⟨hk, hall⟩
    (conv => whnf); (repeat (first | (refine arith_i ⟨by omega, by omega⟩ ?_; conv => whnf) | (refine need_i (by first | omega | (simp only [List.length_append, List.length_cons, List.length_nil]; omega)) ?_; conv => whnf) | ((with_reducible first | refine branch_tt ?_ | refine branch_ff ?_); conv => whnf) | (with_reducible refine branch_not ?_) | ((with_reducible first | refine slc_e ?_ | refine callS_a ?_ | refine bld_a ?_ | refine own_e ?_ | refine mkmap_b ?_); conv => whnf)))
    refine branch_d (fun h1 => ?_) (fun h1 => ?_)
    · (conv => whnf); (repeat (first | (refine arith_i ⟨by omega, by omega⟩ ?_; conv => whnf) | (refine need_i (by first | omega | (simp only [List.length_append, List.length_cons, List.length_nil]; omega)) ?_; conv => whnf) | ((with_reducible first | refine branch_tt ?_ | refine branch_ff ?_); conv => whnf) | (with_reducible refine branch_not ?_) | ((with_reducible first | refine slc_e ?_ | refine callS_a ?_ | refine bld_a ?_ | refine own_e ?_ | refine mkmap_b ?_); conv => whnf)))
      refine idx_m (by omega) (by omega) fun x hx => ?_
      rw [Int.toNat_natCast] at hx
      (conv => whnf); (repeat (first | (refine arith_i ⟨by omega, by omega⟩ ?_; conv => whnf) | (refine need_i (by first | omega | (simp only [List.length_append, List.length_cons, List.length_nil]; omega)) ?_; conv => whnf) | ((with_reducible first | refine branch_tt ?_ | refine branch_ff ?_); conv => whnf) | (with_reducible refine branch_not ?_) | ((with_reducible first | refine slc_e ?_ | refine callS_a ?_ | refine bld_a ?_ | refine own_e ?_ | refine mkmap_b ?_); conv => whnf)))
      refine branch_d (fun h2 => ?_) (fun h2 => ?_)
      · (conv => whnf); (repeat (first | (refine arith_i ⟨by omega, by omega⟩ ?_; conv => whnf) | (refine need_i (by first | omega | (simp only [List.length_append, List.length_cons, List.length_nil]; omega)) ?_; conv => whnf) | ((with_reducible first | refine branch_tt ?_ | refine branch_ff ?_); conv => whnf) | (with_reducible refine branch_not ?_) | ((with_reducible first | refine slc_e ?_ | refine callS_a ?_ | refine bld_a ?_ | refine own_e ?_ | refine mkmap_b ?_); conv => whnf)))
        exact ret_p rfl (bool_eq (stO_bad hx (by simp [tri9]; omega)).symm)
      · (conv => whnf); (repeat (first | (refine arith_i ⟨by omega, by omega⟩ ?_; conv => whnf) | (refine need_i (by first | omega | (simp only [List.length_append, List.length_cons, List.length_nil]; omega)) ?_; conv => whnf) | ((with_reducible first | refine branch_tt ?_ | refine branch_ff ?_); conv => whnf) | (with_reducible refine branch_not ?_) | ((with_reducible first | refine slc_e ?_ | refine callS_a ?_ | refine bld_a ?_ | refine own_e ?_ | refine mkmap_b ?_); conv => whnf)))
        refine branch_d (fun h3 => ?_) (fun h3 => ?_)
        · (conv => whnf); (repeat (first | (refine arith_i ⟨by omega, by omega⟩ ?_; conv => whnf) | (refine need_i (by first | omega | (simp only [List.length_append, List.length_cons, List.length_nil]; omega)) ?_; conv => whnf) | ((with_reducible first | refine branch_tt ?_ | refine branch_ff ?_); conv => whnf) | (with_reducible refine branch_not ?_) | ((with_reducible first | refine slc_e ?_ | refine callS_a ?_ | refine bld_a ?_ | refine own_e ?_ | refine mkmap_b ?_); conv => whnf)))
          exact ret_p rfl (bool_eq (stO_bad hx (by simp [tri9]; omega)).symm)
        · (conv => whnf); (repeat (first | (refine arith_i ⟨by omega, by omega⟩ ?_; conv => whnf) | (refine need_i (by first | omega | (simp only [List.length_append, List.length_cons, List.length_nil]; omega)) ?_; conv => whnf) | ((with_reducible first | refine branch_tt ?_ | refine branch_ff ?_); conv => whnf) | (with_reducible refine branch_not ?_) | ((with_reducible first | refine slc_e ?_ | refine callS_a ?_ | refine bld_a ?_ | refine own_e ?_ | refine mkmap_b ?_); conv => whnf)))
          refine ⟨k + 1, ⟨by omega, fun i y hi hy => ?_⟩, le_mk ⟨rfl, rfl, rfl, trivial⟩ trivial rfl, by omega⟩
          rcases Nat.lt_or_ge i k with h' | h'
          · exact hall i y h' hy
          · obtain rfl : i = k := by omega
            rw [hx] at hy; injection hy with hy; subst hy
            simp [tri9]; omega
    · (conv => whnf); (repeat (first | (refine arith_i ⟨by omega, by omega⟩ ?_; conv => whnf) | (refine need_i (by first | omega | (simp only [List.length_append, List.length_cons, List.length_nil]; omega)) ?_; conv => whnf) | ((with_reducible first | refine branch_tt ?_ | refine branch_ff ?_); conv => whnf) | (with_reducible refine branch_not ?_) | ((with_reducible first | refine slc_e ?_ | refine callS_a ?_ | refine bld_a ?_ | refine own_e ?_ | refine mkmap_b ?_); conv => whnf)))
      exact ret_p rfl (bool_eq (stO_good (by omega) (by omega) hall).symm)
def bndB (rows : Nat) (n : Nd) : Bool := decide (n.kind = 3) && (if n.row = -1 then decide (n.num = 0) && decide (n.den = 1) else decide (0 ≤ n.row) && decide (n.row < rows) && decide (-10000 ≤ n.num) && decide (n.num ≤ 10000) && decide (1 ≤ n.den) && decide (n.den ≤ 10000))
theorem oBound_ok (P : Prog) (n : Nd) : Good Try.prog TT false 35 [progV P, .agg (encN n)] (· = .bool (bndB P.rows.length n)) := by
  have L : (P.rows.map encRow).length = P.rows.length := List.length_map ..
  refine good_of mixed tabOk Try.func35 rfl rfl Try.ntmps35 Try.results35 rfl rfl ?_
  (conv => whnf); (repeat (first | (refine arith_i ⟨by omega, by omega⟩ ?_; conv => whnf) | (refine need_i (by first | omega | (simp only [List.length_append, List.length_cons, List.length_nil]; omega)) ?_; conv => whnf) | ((with_reducible first | refine branch_tt ?_ | refine branch_ff ?_); conv => whnf) | (with_reducible refine branch_not ?_) | ((with_reducible first | refine slc_e ?_ | refine callS_a ?_ | refine bld_a ?_ | refine own_e ?_ | refine mkmap_b ?_); conv => whnf)))
  refine branch_n (fun h => ?_) (fun h => ?_)
  · (conv => whnf); (repeat (first | (refine arith_i ⟨by omega, by omega⟩ ?_; conv => whnf) | (refine need_i (by first | omega | (simp only [List.length_append, List.length_cons, List.length_nil]; omega)) ?_; conv => whnf) | ((with_reducible first | refine branch_tt ?_ | refine branch_ff ?_); conv => whnf) | (with_reducible refine branch_not ?_) | ((with_reducible first | refine slc_e ?_ | refine callS_a ?_ | refine bld_a ?_ | refine own_e ?_ | refine mkmap_b ?_); conv => whnf)))
    exact ret_p rfl (bool_eq (by simp [bndB, h]))
  (conv => whnf); (repeat (first | (refine arith_i ⟨by omega, by omega⟩ ?_; conv => whnf) | (refine need_i (by first | omega | (simp only [List.length_append, List.length_cons, List.length_nil]; omega)) ?_; conv => whnf) | ((with_reducible first | refine branch_tt ?_ | refine branch_ff ?_); conv => whnf) | (with_reducible refine branch_not ?_) | ((with_reducible first | refine slc_e ?_ | refine callS_a ?_ | refine bld_a ?_ | refine own_e ?_ | refine mkmap_b ?_); conv => whnf)))
  refine branch_e (fun h1 => ?_) (fun h1 => ?_)
  · (conv => whnf); (repeat (first | (refine arith_i ⟨by omega, by omega⟩ ?_; conv => whnf) | (refine need_i (by first | omega | (simp only [List.length_append, List.length_cons, List.length_nil]; omega)) ?_; conv => whnf) | ((with_reducible first | refine branch_tt ?_ | refine branch_ff ?_); conv => whnf) | (with_reducible refine branch_not ?_) | ((with_reducible first | refine slc_e ?_ | refine callS_a ?_ | refine bld_a ?_ | refine own_e ?_ | refine mkmap_b ?_); conv => whnf)))
    refine branch_e (fun h2 => ?_) (fun h2 => ?_)
    · (conv => whnf); (repeat (first | (refine arith_i ⟨by omega, by omega⟩ ?_; conv => whnf) | (refine need_i (by first | omega | (simp only [List.length_append, List.length_cons, List.length_nil]; omega)) ?_; conv => whnf) | ((with_reducible first | refine branch_tt ?_ | refine branch_ff ?_); conv => whnf) | (with_reducible refine branch_not ?_) | ((with_reducible first | refine slc_e ?_ | refine callS_a ?_ | refine bld_a ?_ | refine own_e ?_ | refine mkmap_b ?_); conv => whnf)))
      exact ret_p rfl (bool_eq (by simp only [bndB, h, h1, h2, if_pos, decide_true, Bool.true_and]; rw [Bool.eq_iff_iff]; simp))
    · (conv => whnf); (repeat (first | (refine arith_i ⟨by omega, by omega⟩ ?_; conv => whnf) | (refine need_i (by first | omega | (simp only [List.length_append, List.length_cons, List.length_nil]; omega)) ?_; conv => whnf) | ((with_reducible first | refine branch_tt ?_ | refine branch_ff ?_); conv => whnf) | (with_reducible refine branch_not ?_) | ((with_reducible first | refine slc_e ?_ | refine callS_a ?_ | refine bld_a ?_ | refine own_e ?_ | refine mkmap_b ?_); conv => whnf)))
      exact ret_p rfl (bool_eq (by simp [bndB, h, h1, h2]))
  · have no : (decide (0 ≤ n.row) && decide (n.row < P.rows.length) && decide (-10000 ≤ n.num) && decide (n.num ≤ 10000) && decide (1 ≤ n.den) && decide (n.den ≤ 10000)) = false → AV.bool false = .bool (bndB P.rows.length n) := fun hb => bool_eq (by rw [bndB, if_neg h1, hb, Bool.and_false])
    (conv => whnf); (repeat (first | (refine arith_i ⟨by omega, by omega⟩ ?_; conv => whnf) | (refine need_i (by first | omega | (simp only [List.length_append, List.length_cons, List.length_nil]; omega)) ?_; conv => whnf) | ((with_reducible first | refine branch_tt ?_ | refine branch_ff ?_); conv => whnf) | (with_reducible refine branch_not ?_) | ((with_reducible first | refine slc_e ?_ | refine callS_a ?_ | refine bld_a ?_ | refine own_e ?_ | refine mkmap_b ?_); conv => whnf)))
    refine branch_d (fun c1 => ?_) (fun c1 => ?_)
    · (conv => whnf); (repeat (first | (refine arith_i ⟨by omega, by omega⟩ ?_; conv => whnf) | (refine need_i (by first | omega | (simp only [List.length_append, List.length_cons, List.length_nil]; omega)) ?_; conv => whnf) | ((with_reducible first | refine branch_tt ?_ | refine branch_ff ?_); conv => whnf) | (with_reducible refine branch_not ?_) | ((with_reducible first | refine slc_e ?_ | refine callS_a ?_ | refine bld_a ?_ | refine own_e ?_ | refine mkmap_b ?_); conv => whnf)))
      refine branch_d (fun c2 => ?_) (fun c2 => ?_)
      · (conv => whnf); (repeat (first | (refine arith_i ⟨by omega, by omega⟩ ?_; conv => whnf) | (refine need_i (by first | omega | (simp only [List.length_append, List.length_cons, List.length_nil]; omega)) ?_; conv => whnf) | ((with_reducible first | refine branch_tt ?_ | refine branch_ff ?_); conv => whnf) | (with_reducible refine branch_not ?_) | ((with_reducible first | refine slc_e ?_ | refine callS_a ?_ | refine bld_a ?_ | refine own_e ?_ | refine mkmap_b ?_); conv => whnf)))
        refine branch_d (fun c3 => ?_) (fun c3 => ?_)
        · (conv => whnf); (repeat (first | (refine arith_i ⟨by omega, by omega⟩ ?_; conv => whnf) | (refine need_i (by first | omega | (simp only [List.length_append, List.length_cons, List.length_nil]; omega)) ?_; conv => whnf) | ((with_reducible first | refine branch_tt ?_ | refine branch_ff ?_); conv => whnf) | (with_reducible refine branch_not ?_) | ((with_reducible first | refine slc_e ?_ | refine callS_a ?_ | refine bld_a ?_ | refine own_e ?_ | refine mkmap_b ?_); conv => whnf)))
          refine branch_d (fun c4 => ?_) (fun c4 => ?_)
          · (conv => whnf); (repeat (first | (refine arith_i ⟨by omega, by omega⟩ ?_; conv => whnf) | (refine need_i (by first | omega | (simp only [List.length_append, List.length_cons, List.length_nil]; omega)) ?_; conv => whnf) | ((with_reducible first | refine branch_tt ?_ | refine branch_ff ?_); conv => whnf) | (with_reducible refine branch_not ?_) | ((with_reducible first | refine slc_e ?_ | refine callS_a ?_ | refine bld_a ?_ | refine own_e ?_ | refine mkmap_b ?_); conv => whnf)))
            refine branch_d (fun c5 => ?_) (fun c5 => ?_)
            · (conv => whnf); (repeat (first | (refine arith_i ⟨by omega, by omega⟩ ?_; conv => whnf) | (refine need_i (by first | omega | (simp only [List.length_append, List.length_cons, List.length_nil]; omega)) ?_; conv => whnf) | ((with_reducible first | refine branch_tt ?_ | refine branch_ff ?_); conv => whnf) | (with_reducible refine branch_not ?_) | ((with_reducible first | refine slc_e ?_ | refine callS_a ?_ | refine bld_a ?_ | refine own_e ?_ | refine mkmap_b ?_); conv => whnf)))
              have c2' : n.row < P.rows.length := by omega
              exact ret_p rfl (bool_eq (by simp [bndB, h, h1, c1, c2', c3, c4, c5]))
            · (conv => whnf); (repeat (first | (refine arith_i ⟨by omega, by omega⟩ ?_; conv => whnf) | (refine need_i (by first | omega | (simp only [List.length_append, List.length_cons, List.length_nil]; omega)) ?_; conv => whnf) | ((with_reducible first | refine branch_tt ?_ | refine branch_ff ?_); conv => whnf) | (with_reducible refine branch_not ?_) | ((with_reducible first | refine slc_e ?_ | refine callS_a ?_ | refine bld_a ?_ | refine own_e ?_ | refine mkmap_b ?_); conv => whnf)))
              exact ret_p rfl (no (by simp; omega))
          · (conv => whnf); (repeat (first | (refine arith_i ⟨by omega, by omega⟩ ?_; conv => whnf) | (refine need_i (by first | omega | (simp only [List.length_append, List.length_cons, List.length_nil]; omega)) ?_; conv => whnf) | ((with_reducible first | refine branch_tt ?_ | refine branch_ff ?_); conv => whnf) | (with_reducible refine branch_not ?_) | ((with_reducible first | refine slc_e ?_ | refine callS_a ?_ | refine bld_a ?_ | refine own_e ?_ | refine mkmap_b ?_); conv => whnf)))
            exact ret_p rfl (no (by simp; omega))
        · (conv => whnf); (repeat (first | (refine arith_i ⟨by omega, by omega⟩ ?_; conv => whnf) | (refine need_i (by first | omega | (simp only [List.length_append, List.length_cons, List.length_nil]; omega)) ?_; conv => whnf) | ((with_reducible first | refine branch_tt ?_ | refine branch_ff ?_); conv => whnf) | (with_reducible refine branch_not ?_) | ((with_reducible first | refine slc_e ?_ | refine callS_a ?_ | refine bld_a ?_ | refine own_e ?_ | refine mkmap_b ?_); conv => whnf)))
          exact ret_p rfl (no (by simp; omega))
      · (conv => whnf); (repeat (first | (refine arith_i ⟨by omega, by omega⟩ ?_; conv => whnf) | (refine need_i (by first | omega | (simp only [List.length_append, List.length_cons, List.length_nil]; omega)) ?_; conv => whnf) | ((with_reducible first | refine branch_tt ?_ | refine branch_ff ?_); conv => whnf) | (with_reducible refine branch_not ?_) | ((with_reducible first | refine slc_e ?_ | refine callS_a ?_ | refine bld_a ?_ | refine own_e ?_ | refine mkmap_b ?_); conv => whnf)))
        exact ret_p rfl (no (by simp; omega))
    · (conv => whnf); (repeat (first | (refine arith_i ⟨by omega, by omega⟩ ?_; conv => whnf) | (refine need_i (by first | omega | (simp only [List.length_append, List.length_cons, List.length_nil]; omega)) ?_; conv => whnf) | ((with_reducible first | refine branch_tt ?_ | refine branch_ff ?_); conv => whnf) | (with_reducible refine branch_not ?_) | ((with_reducible first | refine slc_e ?_ | refine callS_a ?_ | refine bld_a ?_ | refine own_e ?_ | refine mkmap_b ?_); conv => whnf)))
      exact ret_p rfl (no (by simp; omega))
def infB (rows : Nat) (n : Nd) : Bool := decide (n.kind = 2) && decide (0 ≤ n.row) && decide (n.row < rows)
theorem oInf_ok (P : Prog) (n : Nd) : Good Try.prog TT false 37 [progV P, .agg (encN n)] (· = .bool (infB P.rows.length n)) := by
  have L : (P.rows.map encRow).length = P.rows.length := List.length_map ..
  refine good_of mixed tabOk Try.func37 rfl rfl Try.ntmps37 Try.results37 rfl rfl ?_
  (conv => whnf); (repeat (first | (refine arith_i ⟨by omega, by omega⟩ ?_; conv => whnf) | (refine need_i (by first | omega | (simp only [List.length_append, List.length_cons, List.length_nil]; omega)) ?_; conv => whnf) | ((with_reducible first | refine branch_tt ?_ | refine branch_ff ?_); conv => whnf) | (with_reducible refine branch_not ?_) | ((with_reducible first | refine slc_e ?_ | refine callS_a ?_ | refine bld_a ?_ | refine own_e ?_ | refine mkmap_b ?_); conv => whnf)))
  refine branch_e (fun h => ?_) (fun h => ?_)
  · (conv => whnf); (repeat (first | (refine arith_i ⟨by omega, by omega⟩ ?_; conv => whnf) | (refine need_i (by first | omega | (simp only [List.length_append, List.length_cons, List.length_nil]; omega)) ?_; conv => whnf) | ((with_reducible first | refine branch_tt ?_ | refine branch_ff ?_); conv => whnf) | (with_reducible refine branch_not ?_) | ((with_reducible first | refine slc_e ?_ | refine callS_a ?_ | refine bld_a ?_ | refine own_e ?_ | refine mkmap_b ?_); conv => whnf)))
    refine branch_d (fun c1 => ?_) (fun c1 => ?_)
    · (conv => whnf); (repeat (first | (refine arith_i ⟨by omega, by omega⟩ ?_; conv => whnf) | (refine need_i (by first | omega | (simp only [List.length_append, List.length_cons, List.length_nil]; omega)) ?_; conv => whnf) | ((with_reducible first | refine branch_tt ?_ | refine branch_ff ?_); conv => whnf) | (with_reducible refine branch_not ?_) | ((with_reducible first | refine slc_e ?_ | refine callS_a ?_ | refine bld_a ?_ | refine own_e ?_ | refine mkmap_b ?_); conv => whnf)))
      exact ret_p rfl (bool_eq (by simp [infB, h, c1]))
    · (conv => whnf); (repeat (first | (refine arith_i ⟨by omega, by omega⟩ ?_; conv => whnf) | (refine need_i (by first | omega | (simp only [List.length_append, List.length_cons, List.length_nil]; omega)) ?_; conv => whnf) | ((with_reducible first | refine branch_tt ?_ | refine branch_ff ?_); conv => whnf) | (with_reducible refine branch_not ?_) | ((with_reducible first | refine slc_e ?_ | refine callS_a ?_ | refine bld_a ?_ | refine own_e ?_ | refine mkmap_b ?_); conv => whnf)))
      exact ret_p rfl (bool_eq (by simp [infB, h, c1]))
  · (conv => whnf); (repeat (first | (refine arith_i ⟨by omega, by omega⟩ ?_; conv => whnf) | (refine need_i (by first | omega | (simp only [List.length_append, List.length_cons, List.length_nil]; omega)) ?_; conv => whnf) | ((with_reducible first | refine branch_tt ?_ | refine branch_ff ?_); conv => whnf) | (with_reducible refine branch_not ?_) | ((with_reducible first | refine slc_e ?_ | refine callS_a ?_ | refine bld_a ?_ | refine own_e ?_ | refine mkmap_b ?_); conv => whnf)))
    exact ret_p rfl (bool_eq (by simp [infB, h]))
def ceilF (a b : Int) : Int := if 0 < a.tmod b then a.tdiv b + 1 else a.tdiv b
theorem ceil_ok (a b : Int) (ha : -1000000000000 ≤ a ∧ a ≤ 1000000000000) (hb : 1 ≤ b ∧ b ≤ 10000) (hq : -1000000000000 ≤ a.tdiv b ∧ a.tdiv b ≤ 1000000000000) : Good Try.prog TT false 39 [.int .i64 a, .int .i64 b] (· = .int .i64 (ceilF a b)) := by
  refine good_of mixed tabOk Try.func39 rfl rfl Try.ntmps39 Try.results39 rfl rfl ?_
  (conv => whnf); (repeat (first | (refine arith_i ⟨by omega, by omega⟩ ?_; conv => whnf) | (refine need_i (by first | omega | (simp only [List.length_append, List.length_cons, List.length_nil]; omega)) ?_; conv => whnf) | ((with_reducible first | refine branch_tt ?_ | refine branch_ff ?_); conv => whnf) | (with_reducible refine branch_not ?_) | ((with_reducible first | refine slc_e ?_ | refine callS_a ?_ | refine bld_a ?_ | refine own_e ?_ | refine mkmap_b ?_); conv => whnf)))
  refine branch_d (fun h => ?_) (fun h => ?_)
  · (conv => whnf); (repeat (first | (refine arith_i ⟨by omega, by omega⟩ ?_; conv => whnf) | (refine need_i (by first | omega | (simp only [List.length_append, List.length_cons, List.length_nil]; omega)) ?_; conv => whnf) | ((with_reducible first | refine branch_tt ?_ | refine branch_ff ?_); conv => whnf) | (with_reducible refine branch_not ?_) | ((with_reducible first | refine slc_e ?_ | refine callS_a ?_ | refine bld_a ?_ | refine own_e ?_ | refine mkmap_b ?_); conv => whnf)))
    exact ret_p rfl (int_eq (by rw [ceilF, if_pos h]))
  · (conv => whnf); (repeat (first | (refine arith_i ⟨by omega, by omega⟩ ?_; conv => whnf) | (refine need_i (by first | omega | (simp only [List.length_append, List.length_cons, List.length_nil]; omega)) ?_; conv => whnf) | ((with_reducible first | refine branch_tt ?_ | refine branch_ff ?_); conv => whnf) | (with_reducible refine branch_not ?_) | ((with_reducible first | refine slc_e ?_ | refine callS_a ?_ | refine bld_a ?_ | refine own_e ?_ | refine mkmap_b ?_); conv => whnf)))
    exact ret_p rfl (int_eq (by rw [ceilF, if_neg h]))
end Go.Proofs.Ytjbmdaoppiinbaa
end

/- Layer 9 by the interpreter: a state with one more option decided. -/
section
namespace Go.Proofs.Ytjbmdaoppiinbaa
set_option linter.unusedVariables false
set_option linter.unusedSimpArgs false
set_option linter.unnecessarySimpa false
set_option linter.unusedSectionVars false
set_option maxRecDepth 10000
open Go.RowKit

theorem clone_ok (xs : List Int) (hl : xs.length ≤ 1000000) : Good Try.prog TT false 10 [ints xs] (· = .own 0 3 1 (xs.map encI)) := by
  have L : (xs.map encI).length = xs.length := List.length_map ..
  refine good_of mixed tabOk Try.func10 rfl rfl Try.ntmps10 Try.results10 rfl rfl ?_
  (conv => whnf); (repeat (first | (refine arith_i ⟨by omega, by omega⟩ ?_; conv => whnf) | (refine need_i (by first | omega | (simp only [List.length_append, List.length_cons, List.length_nil]; omega)) ?_; conv => whnf) | ((with_reducible first | refine branch_tt ?_ | refine branch_ff ?_); conv => whnf) | (with_reducible refine branch_not ?_) | ((with_reducible first | refine slc_e ?_ | refine callS_a ?_ | refine bld_a ?_ | refine own_e ?_ | refine mkmap_b ?_); conv => whnf)))
  refine nil_i (fun h => ?_) ?_
  · (conv => whnf); (repeat (first | (refine arith_i ⟨by omega, by omega⟩ ?_; conv => whnf) | (refine need_i (by first | omega | (simp only [List.length_append, List.length_cons, List.length_nil]; omega)) ?_; conv => whnf) | ((with_reducible first | refine branch_tt ?_ | refine branch_ff ?_); conv => whnf) | (with_reducible refine branch_not ?_) | ((with_reducible first | refine slc_e ?_ | refine callS_a ?_ | refine bld_a ?_ | refine own_e ?_ | refine mkmap_b ?_); conv => whnf)))
    exact ret_n (e := 3) (z := 1) (by rw [h])
  · (conv => whnf); (repeat (first | (refine arith_i ⟨by omega, by omega⟩ ?_; conv => whnf) | (refine need_i (by first | omega | (simp only [List.length_append, List.length_cons, List.length_nil]; omega)) ?_; conv => whnf) | ((with_reducible first | refine branch_tt ?_ | refine branch_ff ?_); conv => whnf) | (with_reducible refine branch_not ?_) | ((with_reducible first | refine slc_e ?_ | refine callS_a ?_ | refine bld_a ?_ | refine own_e ?_ | refine mkmap_b ?_); conv => whnf)))
    exact ret_o rfl
theorem encI_set {y : Int} : ∀ {xs : List Int} {k : Nat}, (xs.map encI).modify k (·.set 0 (.int .i64 y)) = (xs.set k y).map encI
  | [], _ => by simp
  | x :: xs, 0 => by simp [encI, List.modify_zero_cons]
  | x :: xs, k + 1 => by simp only [List.map_cons, List.modify_succ_cons, List.set_cons_succ, encI_set]
theorem with_ok (st : List Int) (o v : Int) (hl : st.length ≤ 1000000) (ho : 0 ≤ o ∧ o < st.length) : Good Try.prog TT false 38 [ints st, .int .i64 o, .int .i64 v] (· = ints (st.set o.toNat v)) := by
  have L : (st.map encI).length = st.length := List.length_map ..
  refine good_of mixed tabOk Try.func38 rfl rfl Try.ntmps38 Try.results38 rfl rfl ?_
  (conv => whnf); (repeat (first | (refine arith_i ⟨by omega, by omega⟩ ?_; conv => whnf) | (refine need_i (by first | omega | (simp only [List.length_append, List.length_cons, List.length_nil]; omega)) ?_; conv => whnf) | ((with_reducible first | refine branch_tt ?_ | refine branch_ff ?_); conv => whnf) | (with_reducible refine branch_not ?_) | ((with_reducible first | refine slc_e ?_ | refine callS_a ?_ | refine bld_a ?_ | refine own_e ?_ | refine mkmap_b ?_); conv => whnf)))
  refine call_e (clone_ok st hl) ?_
  (conv => whnf); (repeat (first | (refine arith_i ⟨by omega, by omega⟩ ?_; conv => whnf) | (refine need_i (by first | omega | (simp only [List.length_append, List.length_cons, List.length_nil]; omega)) ?_; conv => whnf) | ((with_reducible first | refine branch_tt ?_ | refine branch_ff ?_); conv => whnf) | (with_reducible refine branch_not ?_) | ((with_reducible first | refine slc_e ?_ | refine callS_a ?_ | refine bld_a ?_ | refine own_e ?_ | refine mkmap_b ?_); conv => whnf)))
  refine idx_m (by omega) (by omega) fun x hx => ?_
  (conv => whnf); (repeat (first | (refine arith_i ⟨by omega, by omega⟩ ?_; conv => whnf) | (refine need_i (by first | omega | (simp only [List.length_append, List.length_cons, List.length_nil]; omega)) ?_; conv => whnf) | ((with_reducible first | refine branch_tt ?_ | refine branch_ff ?_); conv => whnf) | (with_reducible refine branch_not ?_) | ((with_reducible first | refine slc_e ?_ | refine callS_a ?_ | refine bld_a ?_ | refine own_e ?_ | refine mkmap_b ?_); conv => whnf)))
  exact ret_ol (congrArg (AV.lst 1) encI_set)
end Go.Proofs.Ytjbmdaoppiinbaa
end

/- Layer 5, plain: topics in a tree, marks that are rolled up. No program in sight. -/
section
namespace Go.Proofs.Ytjbmdaoppiinbaa
set_option linter.unusedVariables false
set_option linter.unusedSimpArgs false
set_option linter.unnecessarySimpa false
set_option linter.unusedSectionVars false

def sumN (f : Nat → Int) : Nat → Int
  | 0 => 0
  | n + 1 => sumN f n + f n
theorem sumN_congr {f g : Nat → Int} : ∀ {n : Nat}, (∀ k, k < n → f k = g k) → sumN f n = sumN g n
  | 0, _ => rfl
  | n + 1, h => by rw [sumN, sumN, sumN_congr fun k hk => h k (by omega), h n (by omega)]
section
variable {p : Nat → Int} (hp : ∀ k, -1 ≤ p k ∧ p k < k)
include hp in
include hp in
include hp in
include hp in
include hp in
include hp in
include hp in
include hp in
include hp in
include hp in
include hp in
include hp in
end
end Go.Proofs.Ytjbmdaoppiinbaa
end

/- Layer 9 by the interpreter: the bound of a node. -/
section
namespace Go.Proofs.Ytjbmdaoppiinbaa
set_option linter.unusedVariables false
set_option linter.unusedSimpArgs false
set_option linter.unnecessarySimpa false
set_option linter.unusedSectionVars false
set_option maxRecDepth 10000
open Go.RowKit
theorem mul_in {a b : Int} {A B : Nat} (ha : -(A : Int) ≤ a ∧ a ≤ A) (hb : -(B : Int) ≤ b ∧ b ≤ B) : -((A * B : Nat) : Int) ≤ a * b ∧ a * b ≤ ((A * B : Nat) : Int) := by
  have h1 : a.natAbs ≤ A := by omega
  have h2 : b.natAbs ≤ B := by omega
  have h3 := Nat.mul_le_mul h1 h2
  rw [← Int.natAbs_mul] at h3
  omega
def rowOf (P : Prog) (n : Nd) : Row := if n.row < 0 then ⟨List.replicate P.costs.length 0, 0, 0⟩ else rowAt P.rows n.row.toNat
def contr (s v : Int) : Int := if s = 1 then v else if s = -1 then min v 0 else 0
def nodeV (P : Prog) (n : Nd) (i : Nat) : Int := n.den * nth P.costs i - n.num * nth (rowOf P n).coefs i
def startF (P : Prog) (n : Nd) : Int := if n.num < 0 then n.num * (rowOf P n).most else n.num * (rowOf P n).least
def totF (P : Prog) (st : List Int) (n : Nd) (k : Nat) : Int := startF P n + sumN (fun i => contr (nth st i) (nodeV P n i)) k
def boundF (P : Prog) (st : List Int) (n : Nd) : Int := ceilF (totF P st n P.costs.length) n.den
/-- What is known of the row of a bound. -/
structure RowIn (c : Nat) (r : Row) : Prop where
  len : r.coefs.length = c
  co : ∀ i, -10000 ≤ nth r.coefs i ∧ nth r.coefs i ≤ 10000
  le : -1000000 ≤ r.least ∧ r.least ≤ 1000000
  mo : -1000000 ≤ r.most ∧ r.most ≤ 1000000
theorem nth_out {xs : List Int} {i : Nat} (h : xs.length ≤ i) : nth xs i = 0 := by simp [nth, List.getD_eq_getElem?_getD, List.getElem?_eq_none h]
theorem rowIn_of {P : Prog} (hv : validB P = true) {n : Nd} (hb : bndB P.rows.length n = true) : RowIn P.costs.length (rowOf P n) := by
  unfold rowOf
  split
  · refine ⟨by simp, fun i => ?_, by show -1000000 ≤ (0 : Int) ∧ (0 : Int) ≤ 1000000; omega, by show -1000000 ≤ (0 : Int) ∧ (0 : Int) ≤ 1000000; omega⟩
    have : nth (List.replicate P.costs.length 0) i = 0 := by
      simp only [nth, List.getD_eq_getElem?_getD, List.getElem?_replicate]
      split <;> rfl
    simp only [this]
    decide
  · next h0 =>
    have hr : n.row < P.rows.length := by
      simp only [bndB] at hb
      by_cases h1 : n.row = -1
      · omega
      · rw [if_neg h1] at hb
        simp at hb
        omega
    have hlt : n.row.toNat < P.rows.length := by omega
    have hm : rowAt P.rows n.row.toNat ∈ P.rows := by
      rw [rowAt_eq (List.getElem?_eq_getElem hlt)]
      exact List.getElem_mem hlt
    obtain ⟨a, b, c, d⟩ := valid_rows hv hm
    refine ⟨a, fun i => ?_, c, d⟩
    rcases Nat.lt_or_ge i (rowAt P.rows n.row.toNat).coefs.length with h | h
    · exact b i h
    · rw [nth_out h]; decide
theorem node_in {n : Nd} {c : Nat} (hb : bndB c n = true) : (-10000 ≤ n.num ∧ n.num ≤ 10000) ∧ 1 ≤ n.den ∧ n.den ≤ 10000 := by
  simp only [bndB] at hb
  by_cases h1 : n.row = -1
  · rw [if_pos h1] at hb
    simp at hb
    omega
  · rw [if_neg h1] at hb
    simp at hb
    omega
theorem cost_in {P : Prog} (hv : validB P = true) (i : Nat) : 0 ≤ nth P.costs i ∧ nth P.costs i ≤ 10000 := by
  rcases Nat.lt_or_ge i P.costs.length with h | h
  · have h1 := (validB_parts hv).2.2.1
    have h2 := List.all_eq_true.1 h1 _ (List.getElem_mem h)
    have h3 := costB_iff.1 h2
    rw [nth_eq (List.getElem?_eq_getElem h)]
    exact h3
  · rw [nth_out h]; decide
theorem nodeV_in {P : Prog} (hv : validB P = true) {n : Nd} (hb : bndB P.rows.length n = true) (i : Nat) : -200000000 ≤ nodeV P n i ∧ nodeV P n i ≤ 200000000 := by
  obtain ⟨h1, h2⟩ := node_in hb
  have h3 := (rowIn_of hv hb).co i
  have h4 := cost_in hv i
  have m1 := mul_in (a := n.den) (b := nth P.costs i) (A := 10000) (B := 10000) (by omega) (by omega)
  have m2 := mul_in (a := n.num) (b := nth (rowOf P n).coefs i) (A := 10000) (B := 10000) (by omega) (by omega)
  unfold nodeV
  omega
theorem start_in {P : Prog} (hv : validB P = true) {n : Nd} (hb : bndB P.rows.length n = true) : -10000000000 ≤ startF P n ∧ startF P n ≤ 10000000000 := by
  obtain ⟨h1, h2⟩ := node_in hb
  have hr := rowIn_of hv hb
  have h3 := hr.le
  have h4 := hr.mo
  have m1 := mul_in (a := n.num) (b := (rowOf P n).most) (A := 10000) (B := 1000000) (by omega) (by omega)
  have m2 := mul_in (a := n.num) (b := (rowOf P n).least) (A := 10000) (B := 1000000) (by omega) (by omega)
  unfold startF
  split <;> omega
theorem contr_in {s v : Int} (h : -200000000 ≤ v ∧ v ≤ 200000000) : -200000000 ≤ contr s v ∧ contr s v ≤ 200000000 := by
  unfold contr
  split
  · exact h
  · split
    · omega
    · omega
theorem tot_in {P : Prog} (hv : validB P = true) {n : Nd} (hb : bndB P.rows.length n = true) (st : List Int) : ∀ k : Nat, k ≤ 12 → -(10000000000 + 200000000 * (k : Int)) ≤ totF P st n k ∧ totF P st n k ≤ 10000000000 + 200000000 * (k : Int)
  | 0, _ => by
    have := start_in hv hb
    simp only [totF, sumN]
    omega
  | k + 1, hk => by
    have h1 := tot_in hv hb st k (by omega)
    have h2 := contr_in (s := nth st k) (nodeV_in hv hb k)
    simp only [totF, sumN] at h1 ⊢
    omega
theorem min_if {x : Int} : (if 0 < x then 0 else x) = min x 0 := by omega
theorem tdiv_in {a b : Int} (hb : 1 ≤ b) : (a.tdiv b).natAbs ≤ a.natAbs := by
  rw [Int.natAbs_tdiv]; exact Nat.div_le_self _ _
theorem tot_next {P : Prog} {st : List Int} {n : Nd} {k : Nat} : totF P st n (k + 1) = totF P st n k + contr (nth st k) (nodeV P n k) := by
  simp only [totF, sumN]; omega
theorem boundOf_ok (P : Prog) (st : List Int) (n : Nd) (hv : validB P = true) (hs : st.length = P.costs.length) (hb : bndB P.rows.length n = true) : Good Try.prog TT false 30 [progV P, ints st, .agg (encN n)] (· = .int .i64 (boundF P st n)) := by
  have L1 : (P.costs.map encI).length = P.costs.length := List.length_map ..
  have L2 : (P.rows.map encRow).length = P.rows.length := List.length_map ..
  have L3 : (st.map encI).length = st.length := List.length_map ..
  have h12 := (validB_parts hv).1
  have hr := rowIn_of hv hb
  obtain ⟨hn, hd⟩ := node_in hb
  refine good_of_c (fun i => Nat.beq i 4) mixed tabOk Try.func30 rfl rfl Try.ntmps30 Try.results30 rfl rfl ?_
  (conv => whnf); (repeat (first | (refine arith_i ⟨by omega, by omega⟩ ?_; conv => whnf) | (refine need_i (by first | omega | (simp only [List.length_append, List.length_cons, List.length_nil]; omega)) ?_; conv => whnf) | ((with_reducible first | refine branch_tt ?_ | refine branch_ff ?_); conv => whnf) | (with_reducible refine branch_not ?_) | ((with_reducible first | refine slc_e ?_ | refine callS_a ?_ | refine bld_a ?_ | refine own_e ?_ | refine mkmap_b ?_); conv => whnf)))
  refine branch_d (fun h0 => ?_) (fun h0 => ?_)
  · have hlt : n.row < P.rows.length := by
      simp only [bndB] at hb
      by_cases h1 : n.row = -1
      · omega
      · rw [if_neg h1] at hb
        simp at hb
        omega
    (conv => whnf); (repeat (first | (refine arith_i ⟨by omega, by omega⟩ ?_; conv => whnf) | (refine need_i (by first | omega | (simp only [List.length_append, List.length_cons, List.length_nil]; omega)) ?_; conv => whnf) | ((with_reducible first | refine branch_tt ?_ | refine branch_ff ?_); conv => whnf) | (with_reducible refine branch_not ?_) | ((with_reducible first | refine slc_e ?_ | refine callS_a ?_ | refine bld_a ?_ | refine own_e ?_ | refine mkmap_b ?_); conv => whnf)))
    refine idx_m (by omega) (by omega) fun r hrr => ?_
    have er : rowOf P n = r := by rw [rowOf, if_neg (by omega), rowAt_eq hrr]
    (conv => whnf); (repeat (first | (refine arith_i ⟨by omega, by omega⟩ ?_; conv => whnf) | (refine need_i (by first | omega | (simp only [List.length_append, List.length_cons, List.length_nil]; omega)) ?_; conv => whnf) | ((with_reducible first | refine branch_tt ?_ | refine branch_ff ?_); conv => whnf) | (with_reducible refine branch_not ?_) | ((with_reducible first | refine slc_e ?_ | refine callS_a ?_ | refine bld_a ?_ | refine own_e ?_ | refine mkmap_b ?_); conv => whnf)))
    refine rest_i (mkSt [(1, ints st), (3, .ptr 3 0), (5, .ptr 5 0), (7, .ptr 7 0)] [(3, [ints P.costs, rowsV P.rows]), (5, encN n), (7, encRow (rowOf P n))] false) (le_mk ⟨rfl, rfl, rfl, rfl, trivial⟩ ⟨rfl, rfl, by rw [er]; rfl, trivial⟩ rfl) ?_
    (conv => whnf); (repeat (first | (refine arith_i ⟨by omega, by omega⟩ ?_; conv => whnf) | (refine need_i (by first | omega | (simp only [List.length_append, List.length_cons, List.length_nil]; omega)) ?_; conv => whnf) | ((with_reducible first | refine branch_tt ?_ | refine branch_ff ?_); conv => whnf) | (with_reducible refine branch_not ?_) | ((with_reducible first | refine slc_e ?_ | refine callS_a ?_ | refine bld_a ?_ | refine own_e ?_ | refine mkmap_b ?_); conv => whnf)))
    have m1 := mul_in (a := n.num) (b := (rowOf P n).least) (A := 10000) (B := 1000000) (by omega) (by have := hr.le; omega)
    have m2 := mul_in (a := n.num) (b := (rowOf P n).most) (A := 10000) (B := 1000000) (by omega) (by have := hr.mo; omega)
    refine arith_i (by omega) ?_
    (conv => whnf); (repeat (first | (refine arith_i ⟨by omega, by omega⟩ ?_; conv => whnf) | (refine need_i (by first | omega | (simp only [List.length_append, List.length_cons, List.length_nil]; omega)) ?_; conv => whnf) | ((with_reducible first | refine branch_tt ?_ | refine branch_ff ?_); conv => whnf) | (with_reducible refine branch_not ?_) | ((with_reducible first | refine slc_e ?_ | refine callS_a ?_ | refine bld_a ?_ | refine own_e ?_ | refine mkmap_b ?_); conv => whnf)))
    have fin : ∀ t : Int, t = startF P n → True := fun _ _ => trivial
    refine branch_d (fun hneg => ?_) (fun hneg => ?_)
    · (conv => whnf); (repeat (first | (refine arith_i ⟨by omega, by omega⟩ ?_; conv => whnf) | (refine need_i (by first | omega | (simp only [List.length_append, List.length_cons, List.length_nil]; omega)) ?_; conv => whnf) | ((with_reducible first | refine branch_tt ?_ | refine branch_ff ?_); conv => whnf) | (with_reducible refine branch_not ?_) | ((with_reducible first | refine slc_e ?_ | refine callS_a ?_ | refine bld_a ?_ | refine own_e ?_ | refine mkmap_b ?_); conv => whnf)))
      refine loop_i (fun k : Nat => k ≤ P.costs.length) (fun k => mkSt [(1, ints st), (3, .ptr 3 0), (5, .ptr 5 0), (7, .ptr 7 0), (8, .int .i64 (totF P st n k)), (40, ints P.costs), (41, .int .i64 (P.costs.map encI).length), (42, .int .i64 k)] [(3, [ints P.costs, rowsV P.rows]), (5, encN n), (7, encRow (rowOf P n))] false) (fun k => P.costs.length - k) 0 (Nat.zero_le _) (le_mk ⟨rfl, rfl, rfl, rfl, int_eq (by simp [totF, sumN, startF, hneg]), rfl, rfl, rfl, trivial⟩ ⟨rfl, rfl, rfl, trivial⟩ rfl) ?_
      intro k hk
      have ht := tot_in hv hb st k (by omega)
      have hnv := nodeV_in hv hb k
      have hco := hr.co k
      have hcs := cost_in hv k
      have Lc : ((rowOf P n).coefs.map encI).length = (rowOf P n).coefs.length := List.length_map ..
      have Lc2 := hr.len
      (conv => whnf); (repeat (first | (refine arith_i ⟨by omega, by omega⟩ ?_; conv => whnf) | (refine need_i (by first | omega | (simp only [List.length_append, List.length_cons, List.length_nil]; omega)) ?_; conv => whnf) | ((with_reducible first | refine branch_tt ?_ | refine branch_ff ?_); conv => whnf) | (with_reducible refine branch_not ?_) | ((with_reducible first | refine slc_e ?_ | refine callS_a ?_ | refine bld_a ?_ | refine own_e ?_ | refine mkmap_b ?_); conv => whnf)))
      refine branch_d (fun h => ?_) (fun h => ?_)
      · (conv => whnf); (repeat (first | (refine arith_i ⟨by omega, by omega⟩ ?_; conv => whnf) | (refine need_i (by first | omega | (simp only [List.length_append, List.length_cons, List.length_nil]; omega)) ?_; conv => whnf) | ((with_reducible first | refine branch_tt ?_ | refine branch_ff ?_); conv => whnf) | (with_reducible refine branch_not ?_) | ((with_reducible first | refine slc_e ?_ | refine callS_a ?_ | refine bld_a ?_ | refine own_e ?_ | refine mkmap_b ?_); conv => whnf)))
        refine idx_m (by omega) (by omega) fun c hc => ?_
        rw [Int.toNat_natCast] at hc
        have ec := nth_eq hc
        have q1 := mul_in (a := n.den) (b := c) (A := 10000) (B := 10000) (by omega) (by omega)
        (conv => whnf); (repeat (first | (refine arith_i ⟨by omega, by omega⟩ ?_; conv => whnf) | (refine need_i (by first | omega | (simp only [List.length_append, List.length_cons, List.length_nil]; omega)) ?_; conv => whnf) | ((with_reducible first | refine branch_tt ?_ | refine branch_ff ?_); conv => whnf) | (with_reducible refine branch_not ?_) | ((with_reducible first | refine slc_e ?_ | refine callS_a ?_ | refine bld_a ?_ | refine own_e ?_ | refine mkmap_b ?_); conv => whnf)))
        refine draw_i 14 (.take 0 (.take 1 (.take 2 (.take 3 (.take 4 (.take 5 (.take 6 (.take 7 (.take 8 (.take 9 (.take 10 (.take 11 (.take 12 (.take 13 .done)))))))))))))) (by decide +kernel) ?_
        (conv => whnf); (repeat (first | (refine arith_i ⟨by omega, by omega⟩ ?_; conv => whnf) | (refine need_i (by first | omega | (simp only [List.length_append, List.length_cons, List.length_nil]; omega)) ?_; conv => whnf) | ((with_reducible first | refine branch_tt ?_ | refine branch_ff ?_); conv => whnf) | (with_reducible refine branch_not ?_) | ((with_reducible first | refine slc_e ?_ | refine callS_a ?_ | refine bld_a ?_ | refine own_e ?_ | refine mkmap_b ?_); conv => whnf)))
        refine idx_m (by omega) (by omega) fun co hco2 => ?_
        rw [Int.toNat_natCast] at hco2
        have eco := nth_eq hco2
        have q2 := mul_in (a := n.num) (b := co) (A := 10000) (B := 10000) (by omega) (by omega)
        have env : nodeV P n k = n.den * c - n.num * co := by rw [nodeV, ec, eco]
        (conv => whnf); (repeat (first | (refine arith_i ⟨by omega, by omega⟩ ?_; conv => whnf) | (refine need_i (by first | omega | (simp only [List.length_append, List.length_cons, List.length_nil]; omega)) ?_; conv => whnf) | ((with_reducible first | refine branch_tt ?_ | refine branch_ff ?_); conv => whnf) | (with_reducible refine branch_not ?_) | ((with_reducible first | refine slc_e ?_ | refine callS_a ?_ | refine bld_a ?_ | refine own_e ?_ | refine mkmap_b ?_); conv => whnf)))
        refine idx_m (by omega) (by omega) fun sx hsx => ?_
        rw [Int.toNat_natCast] at hsx
        have esx := nth_eq hsx
        have nx := tot_next (P := P) (st := st) (n := n) (k := k)
        rw [esx, env] at nx
        (conv => whnf); (repeat (first | (refine arith_i ⟨by omega, by omega⟩ ?_; conv => whnf) | (refine need_i (by first | omega | (simp only [List.length_append, List.length_cons, List.length_nil]; omega)) ?_; conv => whnf) | ((with_reducible first | refine branch_tt ?_ | refine branch_ff ?_); conv => whnf) | (with_reducible refine branch_not ?_) | ((with_reducible first | refine slc_e ?_ | refine callS_a ?_ | refine bld_a ?_ | refine own_e ?_ | refine mkmap_b ?_); conv => whnf)))
        refine branch_e (fun e1 => ?_) (fun e1 => ?_)
        · rw [contr, if_pos e1] at nx
          (conv => whnf); (repeat (first | (refine arith_i ⟨by omega, by omega⟩ ?_; conv => whnf) | (refine need_i (by first | omega | (simp only [List.length_append, List.length_cons, List.length_nil]; omega)) ?_; conv => whnf) | ((with_reducible first | refine branch_tt ?_ | refine branch_ff ?_); conv => whnf) | (with_reducible refine branch_not ?_) | ((with_reducible first | refine slc_e ?_ | refine callS_a ?_ | refine bld_a ?_ | refine own_e ?_ | refine mkmap_b ?_); conv => whnf)))
          exact ⟨k + 1, by omega, le_mk ⟨rfl, rfl, rfl, rfl, int_eq (by rw [nx]), rfl, rfl, rfl, trivial⟩ ⟨rfl, rfl, rfl, trivial⟩ rfl, by omega⟩
        · rw [contr, if_neg e1] at nx
          (conv => whnf); (repeat (first | (refine arith_i ⟨by omega, by omega⟩ ?_; conv => whnf) | (refine need_i (by first | omega | (simp only [List.length_append, List.length_cons, List.length_nil]; omega)) ?_; conv => whnf) | ((with_reducible first | refine branch_tt ?_ | refine branch_ff ?_); conv => whnf) | (with_reducible refine branch_not ?_) | ((with_reducible first | refine slc_e ?_ | refine callS_a ?_ | refine bld_a ?_ | refine own_e ?_ | refine mkmap_b ?_); conv => whnf)))
          refine branch_e (fun e2 => ?_) (fun e2 => ?_)
          · rw [if_pos e2] at nx
            (conv => whnf); (repeat (first | (refine arith_i ⟨by omega, by omega⟩ ?_; conv => whnf) | (refine need_i (by first | omega | (simp only [List.length_append, List.length_cons, List.length_nil]; omega)) ?_; conv => whnf) | ((with_reducible first | refine branch_tt ?_ | refine branch_ff ?_); conv => whnf) | (with_reducible refine branch_not ?_) | ((with_reducible first | refine slc_e ?_ | refine callS_a ?_ | refine bld_a ?_ | refine own_e ?_ | refine mkmap_b ?_); conv => whnf)))
            exact ⟨k + 1, by omega, le_mk ⟨rfl, rfl, rfl, rfl, int_eq (by rw [nx, min_if]), rfl, rfl, rfl, trivial⟩ ⟨rfl, rfl, rfl, trivial⟩ rfl, by omega⟩
          · rw [if_neg e2, Int.add_zero] at nx
            (conv => whnf); (repeat (first | (refine arith_i ⟨by omega, by omega⟩ ?_; conv => whnf) | (refine need_i (by first | omega | (simp only [List.length_append, List.length_cons, List.length_nil]; omega)) ?_; conv => whnf) | ((with_reducible first | refine branch_tt ?_ | refine branch_ff ?_); conv => whnf) | (with_reducible refine branch_not ?_) | ((with_reducible first | refine slc_e ?_ | refine callS_a ?_ | refine bld_a ?_ | refine own_e ?_ | refine mkmap_b ?_); conv => whnf)))
            exact ⟨k + 1, by omega, le_mk ⟨rfl, rfl, rfl, rfl, int_eq (by rw [nx]), rfl, rfl, rfl, trivial⟩ ⟨rfl, rfl, rfl, trivial⟩ rfl, by omega⟩
      · have hkn : k = P.costs.length := by omega
        subst hkn
        (conv => whnf); (repeat (first | (refine arith_i ⟨by omega, by omega⟩ ?_; conv => whnf) | (refine need_i (by first | omega | (simp only [List.length_append, List.length_cons, List.length_nil]; omega)) ?_; conv => whnf) | ((with_reducible first | refine branch_tt ?_ | refine branch_ff ?_); conv => whnf) | (with_reducible refine branch_not ?_) | ((with_reducible first | refine slc_e ?_ | refine callS_a ?_ | refine bld_a ?_ | refine own_e ?_ | refine mkmap_b ?_); conv => whnf)))
        refine call_e (ceil_ok (totF P st n P.costs.length) n.den (by omega) hd (by have := tdiv_in (a := totF P st n P.costs.length) hd.1; omega)) ?_
        (conv => whnf); (repeat (first | (refine arith_i ⟨by omega, by omega⟩ ?_; conv => whnf) | (refine need_i (by first | omega | (simp only [List.length_append, List.length_cons, List.length_nil]; omega)) ?_; conv => whnf) | ((with_reducible first | refine branch_tt ?_ | refine branch_ff ?_); conv => whnf) | (with_reducible refine branch_not ?_) | ((with_reducible first | refine slc_e ?_ | refine callS_a ?_ | refine bld_a ?_ | refine own_e ?_ | refine mkmap_b ?_); conv => whnf)))
        exact ret_p rfl rfl
    · (conv => whnf); (repeat (first | (refine arith_i ⟨by omega, by omega⟩ ?_; conv => whnf) | (refine need_i (by first | omega | (simp only [List.length_append, List.length_cons, List.length_nil]; omega)) ?_; conv => whnf) | ((with_reducible first | refine branch_tt ?_ | refine branch_ff ?_); conv => whnf) | (with_reducible refine branch_not ?_) | ((with_reducible first | refine slc_e ?_ | refine callS_a ?_ | refine bld_a ?_ | refine own_e ?_ | refine mkmap_b ?_); conv => whnf)))
      refine loop_i (fun k : Nat => k ≤ P.costs.length) (fun k => mkSt [(1, ints st), (3, .ptr 3 0), (5, .ptr 5 0), (7, .ptr 7 0), (8, .int .i64 (totF P st n k)), (40, ints P.costs), (41, .int .i64 (P.costs.map encI).length), (42, .int .i64 k)] [(3, [ints P.costs, rowsV P.rows]), (5, encN n), (7, encRow (rowOf P n))] false) (fun k => P.costs.length - k) 0 (Nat.zero_le _) (le_mk ⟨rfl, rfl, rfl, rfl, int_eq (by simp [totF, sumN, startF, hneg]), rfl, rfl, rfl, trivial⟩ ⟨rfl, rfl, rfl, trivial⟩ rfl) ?_
      intro k hk
      have ht := tot_in hv hb st k (by omega)
      have hnv := nodeV_in hv hb k
      have hco := hr.co k
      have hcs := cost_in hv k
      have Lc : ((rowOf P n).coefs.map encI).length = (rowOf P n).coefs.length := List.length_map ..
      have Lc2 := hr.len
      (conv => whnf); (repeat (first | (refine arith_i ⟨by omega, by omega⟩ ?_; conv => whnf) | (refine need_i (by first | omega | (simp only [List.length_append, List.length_cons, List.length_nil]; omega)) ?_; conv => whnf) | ((with_reducible first | refine branch_tt ?_ | refine branch_ff ?_); conv => whnf) | (with_reducible refine branch_not ?_) | ((with_reducible first | refine slc_e ?_ | refine callS_a ?_ | refine bld_a ?_ | refine own_e ?_ | refine mkmap_b ?_); conv => whnf)))
      refine branch_d (fun h => ?_) (fun h => ?_)
      · (conv => whnf); (repeat (first | (refine arith_i ⟨by omega, by omega⟩ ?_; conv => whnf) | (refine need_i (by first | omega | (simp only [List.length_append, List.length_cons, List.length_nil]; omega)) ?_; conv => whnf) | ((with_reducible first | refine branch_tt ?_ | refine branch_ff ?_); conv => whnf) | (with_reducible refine branch_not ?_) | ((with_reducible first | refine slc_e ?_ | refine callS_a ?_ | refine bld_a ?_ | refine own_e ?_ | refine mkmap_b ?_); conv => whnf)))
        refine idx_m (by omega) (by omega) fun c hc => ?_
        rw [Int.toNat_natCast] at hc
        have ec := nth_eq hc
        have q1 := mul_in (a := n.den) (b := c) (A := 10000) (B := 10000) (by omega) (by omega)
        (conv => whnf); (repeat (first | (refine arith_i ⟨by omega, by omega⟩ ?_; conv => whnf) | (refine need_i (by first | omega | (simp only [List.length_append, List.length_cons, List.length_nil]; omega)) ?_; conv => whnf) | ((with_reducible first | refine branch_tt ?_ | refine branch_ff ?_); conv => whnf) | (with_reducible refine branch_not ?_) | ((with_reducible first | refine slc_e ?_ | refine callS_a ?_ | refine bld_a ?_ | refine own_e ?_ | refine mkmap_b ?_); conv => whnf)))
        refine draw_i 14 (.take 0 (.take 1 (.take 2 (.take 3 (.take 4 (.take 5 (.take 6 (.take 7 (.take 8 (.take 9 (.take 10 (.take 11 (.take 12 (.take 13 .done)))))))))))))) (by decide +kernel) ?_
        (conv => whnf); (repeat (first | (refine arith_i ⟨by omega, by omega⟩ ?_; conv => whnf) | (refine need_i (by first | omega | (simp only [List.length_append, List.length_cons, List.length_nil]; omega)) ?_; conv => whnf) | ((with_reducible first | refine branch_tt ?_ | refine branch_ff ?_); conv => whnf) | (with_reducible refine branch_not ?_) | ((with_reducible first | refine slc_e ?_ | refine callS_a ?_ | refine bld_a ?_ | refine own_e ?_ | refine mkmap_b ?_); conv => whnf)))
        refine idx_m (by omega) (by omega) fun co hco2 => ?_
        rw [Int.toNat_natCast] at hco2
        have eco := nth_eq hco2
        have q2 := mul_in (a := n.num) (b := co) (A := 10000) (B := 10000) (by omega) (by omega)
        have env : nodeV P n k = n.den * c - n.num * co := by rw [nodeV, ec, eco]
        (conv => whnf); (repeat (first | (refine arith_i ⟨by omega, by omega⟩ ?_; conv => whnf) | (refine need_i (by first | omega | (simp only [List.length_append, List.length_cons, List.length_nil]; omega)) ?_; conv => whnf) | ((with_reducible first | refine branch_tt ?_ | refine branch_ff ?_); conv => whnf) | (with_reducible refine branch_not ?_) | ((with_reducible first | refine slc_e ?_ | refine callS_a ?_ | refine bld_a ?_ | refine own_e ?_ | refine mkmap_b ?_); conv => whnf)))
        refine idx_m (by omega) (by omega) fun sx hsx => ?_
        rw [Int.toNat_natCast] at hsx
        have esx := nth_eq hsx
        have nx := tot_next (P := P) (st := st) (n := n) (k := k)
        rw [esx, env] at nx
        (conv => whnf); (repeat (first | (refine arith_i ⟨by omega, by omega⟩ ?_; conv => whnf) | (refine need_i (by first | omega | (simp only [List.length_append, List.length_cons, List.length_nil]; omega)) ?_; conv => whnf) | ((with_reducible first | refine branch_tt ?_ | refine branch_ff ?_); conv => whnf) | (with_reducible refine branch_not ?_) | ((with_reducible first | refine slc_e ?_ | refine callS_a ?_ | refine bld_a ?_ | refine own_e ?_ | refine mkmap_b ?_); conv => whnf)))
        refine branch_e (fun e1 => ?_) (fun e1 => ?_)
        · rw [contr, if_pos e1] at nx
          (conv => whnf); (repeat (first | (refine arith_i ⟨by omega, by omega⟩ ?_; conv => whnf) | (refine need_i (by first | omega | (simp only [List.length_append, List.length_cons, List.length_nil]; omega)) ?_; conv => whnf) | ((with_reducible first | refine branch_tt ?_ | refine branch_ff ?_); conv => whnf) | (with_reducible refine branch_not ?_) | ((with_reducible first | refine slc_e ?_ | refine callS_a ?_ | refine bld_a ?_ | refine own_e ?_ | refine mkmap_b ?_); conv => whnf)))
          exact ⟨k + 1, by omega, le_mk ⟨rfl, rfl, rfl, rfl, int_eq (by rw [nx]), rfl, rfl, rfl, trivial⟩ ⟨rfl, rfl, rfl, trivial⟩ rfl, by omega⟩
        · rw [contr, if_neg e1] at nx
          (conv => whnf); (repeat (first | (refine arith_i ⟨by omega, by omega⟩ ?_; conv => whnf) | (refine need_i (by first | omega | (simp only [List.length_append, List.length_cons, List.length_nil]; omega)) ?_; conv => whnf) | ((with_reducible first | refine branch_tt ?_ | refine branch_ff ?_); conv => whnf) | (with_reducible refine branch_not ?_) | ((with_reducible first | refine slc_e ?_ | refine callS_a ?_ | refine bld_a ?_ | refine own_e ?_ | refine mkmap_b ?_); conv => whnf)))
          refine branch_e (fun e2 => ?_) (fun e2 => ?_)
          · rw [if_pos e2] at nx
            (conv => whnf); (repeat (first | (refine arith_i ⟨by omega, by omega⟩ ?_; conv => whnf) | (refine need_i (by first | omega | (simp only [List.length_append, List.length_cons, List.length_nil]; omega)) ?_; conv => whnf) | ((with_reducible first | refine branch_tt ?_ | refine branch_ff ?_); conv => whnf) | (with_reducible refine branch_not ?_) | ((with_reducible first | refine slc_e ?_ | refine callS_a ?_ | refine bld_a ?_ | refine own_e ?_ | refine mkmap_b ?_); conv => whnf)))
            exact ⟨k + 1, by omega, le_mk ⟨rfl, rfl, rfl, rfl, int_eq (by rw [nx, min_if]), rfl, rfl, rfl, trivial⟩ ⟨rfl, rfl, rfl, trivial⟩ rfl, by omega⟩
          · rw [if_neg e2, Int.add_zero] at nx
            (conv => whnf); (repeat (first | (refine arith_i ⟨by omega, by omega⟩ ?_; conv => whnf) | (refine need_i (by first | omega | (simp only [List.length_append, List.length_cons, List.length_nil]; omega)) ?_; conv => whnf) | ((with_reducible first | refine branch_tt ?_ | refine branch_ff ?_); conv => whnf) | (with_reducible refine branch_not ?_) | ((with_reducible first | refine slc_e ?_ | refine callS_a ?_ | refine bld_a ?_ | refine own_e ?_ | refine mkmap_b ?_); conv => whnf)))
            exact ⟨k + 1, by omega, le_mk ⟨rfl, rfl, rfl, rfl, int_eq (by rw [nx]), rfl, rfl, rfl, trivial⟩ ⟨rfl, rfl, rfl, trivial⟩ rfl, by omega⟩
      · have hkn : k = P.costs.length := by omega
        subst hkn
        (conv => whnf); (repeat (first | (refine arith_i ⟨by omega, by omega⟩ ?_; conv => whnf) | (refine need_i (by first | omega | (simp only [List.length_append, List.length_cons, List.length_nil]; omega)) ?_; conv => whnf) | ((with_reducible first | refine branch_tt ?_ | refine branch_ff ?_); conv => whnf) | (with_reducible refine branch_not ?_) | ((with_reducible first | refine slc_e ?_ | refine callS_a ?_ | refine bld_a ?_ | refine own_e ?_ | refine mkmap_b ?_); conv => whnf)))
        refine call_e (ceil_ok (totF P st n P.costs.length) n.den (by omega) hd (by have := tdiv_in (a := totF P st n P.costs.length) hd.1; omega)) ?_
        (conv => whnf); (repeat (first | (refine arith_i ⟨by omega, by omega⟩ ?_; conv => whnf) | (refine need_i (by first | omega | (simp only [List.length_append, List.length_cons, List.length_nil]; omega)) ?_; conv => whnf) | ((with_reducible first | refine branch_tt ?_ | refine branch_ff ?_); conv => whnf) | (with_reducible refine branch_not ?_) | ((with_reducible first | refine slc_e ?_ | refine callS_a ?_ | refine bld_a ?_ | refine own_e ?_ | refine mkmap_b ?_); conv => whnf)))
        exact ret_p rfl rfl
  · have er : encRow (rowOf P n) = [.lst 1 (List.replicate (P.costs.map encI).length [.int .i64 0]), .int .i64 0, .int .i64 0] := by
      rw [rowOf, if_pos (by omega), L1]
      simp [encRow, ints, encI, List.map_replicate]
    (conv => whnf); (repeat (first | (refine arith_i ⟨by omega, by omega⟩ ?_; conv => whnf) | (refine need_i (by first | omega | (simp only [List.length_append, List.length_cons, List.length_nil]; omega)) ?_; conv => whnf) | ((with_reducible first | refine branch_tt ?_ | refine branch_ff ?_); conv => whnf) | (with_reducible refine branch_not ?_) | ((with_reducible first | refine slc_e ?_ | refine callS_a ?_ | refine bld_a ?_ | refine own_e ?_ | refine mkmap_b ?_); conv => whnf)))
    refine rest_i (mkSt [(1, ints st), (3, .ptr 3 0), (5, .ptr 5 0), (7, .ptr 7 0)] [(3, [ints P.costs, rowsV P.rows]), (5, encN n), (7, encRow (rowOf P n))] false) (Le.trans (le_erase 15) (le_mk ⟨rfl, rfl, rfl, rfl, trivial⟩ ⟨rfl, rfl, by rw [er]; rfl, trivial⟩ rfl)) ?_
    (conv => whnf); (repeat (first | (refine arith_i ⟨by omega, by omega⟩ ?_; conv => whnf) | (refine need_i (by first | omega | (simp only [List.length_append, List.length_cons, List.length_nil]; omega)) ?_; conv => whnf) | ((with_reducible first | refine branch_tt ?_ | refine branch_ff ?_); conv => whnf) | (with_reducible refine branch_not ?_) | ((with_reducible first | refine slc_e ?_ | refine callS_a ?_ | refine bld_a ?_ | refine own_e ?_ | refine mkmap_b ?_); conv => whnf)))
    have m1 := mul_in (a := n.num) (b := (rowOf P n).least) (A := 10000) (B := 1000000) (by omega) (by have := hr.le; omega)
    have m2 := mul_in (a := n.num) (b := (rowOf P n).most) (A := 10000) (B := 1000000) (by omega) (by have := hr.mo; omega)
    refine arith_i (by omega) ?_
    (conv => whnf); (repeat (first | (refine arith_i ⟨by omega, by omega⟩ ?_; conv => whnf) | (refine need_i (by first | omega | (simp only [List.length_append, List.length_cons, List.length_nil]; omega)) ?_; conv => whnf) | ((with_reducible first | refine branch_tt ?_ | refine branch_ff ?_); conv => whnf) | (with_reducible refine branch_not ?_) | ((with_reducible first | refine slc_e ?_ | refine callS_a ?_ | refine bld_a ?_ | refine own_e ?_ | refine mkmap_b ?_); conv => whnf)))
    have fin : ∀ t : Int, t = startF P n → True := fun _ _ => trivial
    refine branch_d (fun hneg => ?_) (fun hneg => ?_)
    · (conv => whnf); (repeat (first | (refine arith_i ⟨by omega, by omega⟩ ?_; conv => whnf) | (refine need_i (by first | omega | (simp only [List.length_append, List.length_cons, List.length_nil]; omega)) ?_; conv => whnf) | ((with_reducible first | refine branch_tt ?_ | refine branch_ff ?_); conv => whnf) | (with_reducible refine branch_not ?_) | ((with_reducible first | refine slc_e ?_ | refine callS_a ?_ | refine bld_a ?_ | refine own_e ?_ | refine mkmap_b ?_); conv => whnf)))
      refine loop_i (fun k : Nat => k ≤ P.costs.length) (fun k => mkSt [(1, ints st), (3, .ptr 3 0), (5, .ptr 5 0), (7, .ptr 7 0), (8, .int .i64 (totF P st n k)), (40, ints P.costs), (41, .int .i64 (P.costs.map encI).length), (42, .int .i64 k)] [(3, [ints P.costs, rowsV P.rows]), (5, encN n), (7, encRow (rowOf P n))] false) (fun k => P.costs.length - k) 0 (Nat.zero_le _) (le_mk ⟨rfl, rfl, rfl, rfl, int_eq (by simp [totF, sumN, startF, hneg]), rfl, rfl, rfl, trivial⟩ ⟨rfl, rfl, rfl, trivial⟩ rfl) ?_
      intro k hk
      have ht := tot_in hv hb st k (by omega)
      have hnv := nodeV_in hv hb k
      have hco := hr.co k
      have hcs := cost_in hv k
      have Lc : ((rowOf P n).coefs.map encI).length = (rowOf P n).coefs.length := List.length_map ..
      have Lc2 := hr.len
      (conv => whnf); (repeat (first | (refine arith_i ⟨by omega, by omega⟩ ?_; conv => whnf) | (refine need_i (by first | omega | (simp only [List.length_append, List.length_cons, List.length_nil]; omega)) ?_; conv => whnf) | ((with_reducible first | refine branch_tt ?_ | refine branch_ff ?_); conv => whnf) | (with_reducible refine branch_not ?_) | ((with_reducible first | refine slc_e ?_ | refine callS_a ?_ | refine bld_a ?_ | refine own_e ?_ | refine mkmap_b ?_); conv => whnf)))
      refine branch_d (fun h => ?_) (fun h => ?_)
      · (conv => whnf); (repeat (first | (refine arith_i ⟨by omega, by omega⟩ ?_; conv => whnf) | (refine need_i (by first | omega | (simp only [List.length_append, List.length_cons, List.length_nil]; omega)) ?_; conv => whnf) | ((with_reducible first | refine branch_tt ?_ | refine branch_ff ?_); conv => whnf) | (with_reducible refine branch_not ?_) | ((with_reducible first | refine slc_e ?_ | refine callS_a ?_ | refine bld_a ?_ | refine own_e ?_ | refine mkmap_b ?_); conv => whnf)))
        refine idx_m (by omega) (by omega) fun c hc => ?_
        rw [Int.toNat_natCast] at hc
        have ec := nth_eq hc
        have q1 := mul_in (a := n.den) (b := c) (A := 10000) (B := 10000) (by omega) (by omega)
        (conv => whnf); (repeat (first | (refine arith_i ⟨by omega, by omega⟩ ?_; conv => whnf) | (refine need_i (by first | omega | (simp only [List.length_append, List.length_cons, List.length_nil]; omega)) ?_; conv => whnf) | ((with_reducible first | refine branch_tt ?_ | refine branch_ff ?_); conv => whnf) | (with_reducible refine branch_not ?_) | ((with_reducible first | refine slc_e ?_ | refine callS_a ?_ | refine bld_a ?_ | refine own_e ?_ | refine mkmap_b ?_); conv => whnf)))
        refine draw_i 14 (.take 0 (.take 1 (.take 2 (.take 3 (.take 4 (.take 5 (.take 6 (.take 7 (.take 8 (.take 9 (.take 10 (.take 11 (.take 12 (.take 13 .done)))))))))))))) (by decide +kernel) ?_
        (conv => whnf); (repeat (first | (refine arith_i ⟨by omega, by omega⟩ ?_; conv => whnf) | (refine need_i (by first | omega | (simp only [List.length_append, List.length_cons, List.length_nil]; omega)) ?_; conv => whnf) | ((with_reducible first | refine branch_tt ?_ | refine branch_ff ?_); conv => whnf) | (with_reducible refine branch_not ?_) | ((with_reducible first | refine slc_e ?_ | refine callS_a ?_ | refine bld_a ?_ | refine own_e ?_ | refine mkmap_b ?_); conv => whnf)))
        refine idx_m (by omega) (by omega) fun co hco2 => ?_
        rw [Int.toNat_natCast] at hco2
        have eco := nth_eq hco2
        have q2 := mul_in (a := n.num) (b := co) (A := 10000) (B := 10000) (by omega) (by omega)
        have env : nodeV P n k = n.den * c - n.num * co := by rw [nodeV, ec, eco]
        (conv => whnf); (repeat (first | (refine arith_i ⟨by omega, by omega⟩ ?_; conv => whnf) | (refine need_i (by first | omega | (simp only [List.length_append, List.length_cons, List.length_nil]; omega)) ?_; conv => whnf) | ((with_reducible first | refine branch_tt ?_ | refine branch_ff ?_); conv => whnf) | (with_reducible refine branch_not ?_) | ((with_reducible first | refine slc_e ?_ | refine callS_a ?_ | refine bld_a ?_ | refine own_e ?_ | refine mkmap_b ?_); conv => whnf)))
        refine idx_m (by omega) (by omega) fun sx hsx => ?_
        rw [Int.toNat_natCast] at hsx
        have esx := nth_eq hsx
        have nx := tot_next (P := P) (st := st) (n := n) (k := k)
        rw [esx, env] at nx
        (conv => whnf); (repeat (first | (refine arith_i ⟨by omega, by omega⟩ ?_; conv => whnf) | (refine need_i (by first | omega | (simp only [List.length_append, List.length_cons, List.length_nil]; omega)) ?_; conv => whnf) | ((with_reducible first | refine branch_tt ?_ | refine branch_ff ?_); conv => whnf) | (with_reducible refine branch_not ?_) | ((with_reducible first | refine slc_e ?_ | refine callS_a ?_ | refine bld_a ?_ | refine own_e ?_ | refine mkmap_b ?_); conv => whnf)))
        refine branch_e (fun e1 => ?_) (fun e1 => ?_)
        · rw [contr, if_pos e1] at nx
          (conv => whnf); (repeat (first | (refine arith_i ⟨by omega, by omega⟩ ?_; conv => whnf) | (refine need_i (by first | omega | (simp only [List.length_append, List.length_cons, List.length_nil]; omega)) ?_; conv => whnf) | ((with_reducible first | refine branch_tt ?_ | refine branch_ff ?_); conv => whnf) | (with_reducible refine branch_not ?_) | ((with_reducible first | refine slc_e ?_ | refine callS_a ?_ | refine bld_a ?_ | refine own_e ?_ | refine mkmap_b ?_); conv => whnf)))
          exact ⟨k + 1, by omega, le_mk ⟨rfl, rfl, rfl, rfl, int_eq (by rw [nx]), rfl, rfl, rfl, trivial⟩ ⟨rfl, rfl, rfl, trivial⟩ rfl, by omega⟩
        · rw [contr, if_neg e1] at nx
          (conv => whnf); (repeat (first | (refine arith_i ⟨by omega, by omega⟩ ?_; conv => whnf) | (refine need_i (by first | omega | (simp only [List.length_append, List.length_cons, List.length_nil]; omega)) ?_; conv => whnf) | ((with_reducible first | refine branch_tt ?_ | refine branch_ff ?_); conv => whnf) | (with_reducible refine branch_not ?_) | ((with_reducible first | refine slc_e ?_ | refine callS_a ?_ | refine bld_a ?_ | refine own_e ?_ | refine mkmap_b ?_); conv => whnf)))
          refine branch_e (fun e2 => ?_) (fun e2 => ?_)
          · rw [if_pos e2] at nx
            (conv => whnf); (repeat (first | (refine arith_i ⟨by omega, by omega⟩ ?_; conv => whnf) | (refine need_i (by first | omega | (simp only [List.length_append, List.length_cons, List.length_nil]; omega)) ?_; conv => whnf) | ((with_reducible first | refine branch_tt ?_ | refine branch_ff ?_); conv => whnf) | (with_reducible refine branch_not ?_) | ((with_reducible first | refine slc_e ?_ | refine callS_a ?_ | refine bld_a ?_ | refine own_e ?_ | refine mkmap_b ?_); conv => whnf)))
            exact ⟨k + 1, by omega, le_mk ⟨rfl, rfl, rfl, rfl, int_eq (by rw [nx, min_if]), rfl, rfl, rfl, trivial⟩ ⟨rfl, rfl, rfl, trivial⟩ rfl, by omega⟩
          · rw [if_neg e2, Int.add_zero] at nx
            (conv => whnf); (repeat (first | (refine arith_i ⟨by omega, by omega⟩ ?_; conv => whnf) | (refine need_i (by first | omega | (simp only [List.length_append, List.length_cons, List.length_nil]; omega)) ?_; conv => whnf) | ((with_reducible first | refine branch_tt ?_ | refine branch_ff ?_); conv => whnf) | (with_reducible refine branch_not ?_) | ((with_reducible first | refine slc_e ?_ | refine callS_a ?_ | refine bld_a ?_ | refine own_e ?_ | refine mkmap_b ?_); conv => whnf)))
            exact ⟨k + 1, by omega, le_mk ⟨rfl, rfl, rfl, rfl, int_eq (by rw [nx]), rfl, rfl, rfl, trivial⟩ ⟨rfl, rfl, rfl, trivial⟩ rfl, by omega⟩
      · have hkn : k = P.costs.length := by omega
        subst hkn
        (conv => whnf); (repeat (first | (refine arith_i ⟨by omega, by omega⟩ ?_; conv => whnf) | (refine need_i (by first | omega | (simp only [List.length_append, List.length_cons, List.length_nil]; omega)) ?_; conv => whnf) | ((with_reducible first | refine branch_tt ?_ | refine branch_ff ?_); conv => whnf) | (with_reducible refine branch_not ?_) | ((with_reducible first | refine slc_e ?_ | refine callS_a ?_ | refine bld_a ?_ | refine own_e ?_ | refine mkmap_b ?_); conv => whnf)))
        refine call_e (ceil_ok (totF P st n P.costs.length) n.den (by omega) hd (by have := tdiv_in (a := totF P st n P.costs.length) hd.1; omega)) ?_
        (conv => whnf); (repeat (first | (refine arith_i ⟨by omega, by omega⟩ ?_; conv => whnf) | (refine need_i (by first | omega | (simp only [List.length_append, List.length_cons, List.length_nil]; omega)) ?_; conv => whnf) | ((with_reducible first | refine branch_tt ?_ | refine branch_ff ?_); conv => whnf) | (with_reducible refine branch_not ?_) | ((with_reducible first | refine slc_e ?_ | refine callS_a ?_ | refine bld_a ?_ | refine own_e ?_ | refine mkmap_b ?_); conv => whnf)))
        exact ret_p rfl rfl
    · (conv => whnf); (repeat (first | (refine arith_i ⟨by omega, by omega⟩ ?_; conv => whnf) | (refine need_i (by first | omega | (simp only [List.length_append, List.length_cons, List.length_nil]; omega)) ?_; conv => whnf) | ((with_reducible first | refine branch_tt ?_ | refine branch_ff ?_); conv => whnf) | (with_reducible refine branch_not ?_) | ((with_reducible first | refine slc_e ?_ | refine callS_a ?_ | refine bld_a ?_ | refine own_e ?_ | refine mkmap_b ?_); conv => whnf)))
      refine loop_i (fun k : Nat => k ≤ P.costs.length) (fun k => mkSt [(1, ints st), (3, .ptr 3 0), (5, .ptr 5 0), (7, .ptr 7 0), (8, .int .i64 (totF P st n k)), (40, ints P.costs), (41, .int .i64 (P.costs.map encI).length), (42, .int .i64 k)] [(3, [ints P.costs, rowsV P.rows]), (5, encN n), (7, encRow (rowOf P n))] false) (fun k => P.costs.length - k) 0 (Nat.zero_le _) (le_mk ⟨rfl, rfl, rfl, rfl, int_eq (by simp [totF, sumN, startF, hneg]), rfl, rfl, rfl, trivial⟩ ⟨rfl, rfl, rfl, trivial⟩ rfl) ?_
      intro k hk
      have ht := tot_in hv hb st k (by omega)
      have hnv := nodeV_in hv hb k
      have hco := hr.co k
      have hcs := cost_in hv k
      have Lc : ((rowOf P n).coefs.map encI).length = (rowOf P n).coefs.length := List.length_map ..
      have Lc2 := hr.len
      (conv => whnf); (repeat (first | (refine arith_i ⟨by omega, by omega⟩ ?_; conv => whnf) | (refine need_i (by first | omega | (simp only [List.length_append, List.length_cons, List.length_nil]; omega)) ?_; conv => whnf) | ((with_reducible first | refine branch_tt ?_ | refine branch_ff ?_); conv => whnf) | (with_reducible refine branch_not ?_) | ((with_reducible first | refine slc_e ?_ | refine callS_a ?_ | refine bld_a ?_ | refine own_e ?_ | refine mkmap_b ?_); conv => whnf)))
      refine branch_d (fun h => ?_) (fun h => ?_)
      · (conv => whnf); (repeat (first | (refine arith_i ⟨by omega, by omega⟩ ?_; conv => whnf) | (refine need_i (by first | omega | (simp only [List.length_append, List.length_cons, List.length_nil]; omega)) ?_; conv => whnf) | ((with_reducible first | refine branch_tt ?_ | refine branch_ff ?_); conv => whnf) | (with_reducible refine branch_not ?_) | ((with_reducible first | refine slc_e ?_ | refine callS_a ?_ | refine bld_a ?_ | refine own_e ?_ | refine mkmap_b ?_); conv => whnf)))
        refine idx_m (by omega) (by omega) fun c hc => ?_
        rw [Int.toNat_natCast] at hc
        have ec := nth_eq hc
        have q1 := mul_in (a := n.den) (b := c) (A := 10000) (B := 10000) (by omega) (by omega)
        (conv => whnf); (repeat (first | (refine arith_i ⟨by omega, by omega⟩ ?_; conv => whnf) | (refine need_i (by first | omega | (simp only [List.length_append, List.length_cons, List.length_nil]; omega)) ?_; conv => whnf) | ((with_reducible first | refine branch_tt ?_ | refine branch_ff ?_); conv => whnf) | (with_reducible refine branch_not ?_) | ((with_reducible first | refine slc_e ?_ | refine callS_a ?_ | refine bld_a ?_ | refine own_e ?_ | refine mkmap_b ?_); conv => whnf)))
        refine draw_i 14 (.take 0 (.take 1 (.take 2 (.take 3 (.take 4 (.take 5 (.take 6 (.take 7 (.take 8 (.take 9 (.take 10 (.take 11 (.take 12 (.take 13 .done)))))))))))))) (by decide +kernel) ?_
        (conv => whnf); (repeat (first | (refine arith_i ⟨by omega, by omega⟩ ?_; conv => whnf) | (refine need_i (by first | omega | (simp only [List.length_append, List.length_cons, List.length_nil]; omega)) ?_; conv => whnf) | ((with_reducible first | refine branch_tt ?_ | refine branch_ff ?_); conv => whnf) | (with_reducible refine branch_not ?_) | ((with_reducible first | refine slc_e ?_ | refine callS_a ?_ | refine bld_a ?_ | refine own_e ?_ | refine mkmap_b ?_); conv => whnf)))
        refine idx_m (by omega) (by omega) fun co hco2 => ?_
        rw [Int.toNat_natCast] at hco2
        have eco := nth_eq hco2
        have q2 := mul_in (a := n.num) (b := co) (A := 10000) (B := 10000) (by omega) (by omega)
        have env : nodeV P n k = n.den * c - n.num * co := by rw [nodeV, ec, eco]
        (conv => whnf); (repeat (first | (refine arith_i ⟨by omega, by omega⟩ ?_; conv => whnf) | (refine need_i (by first | omega | (simp only [List.length_append, List.length_cons, List.length_nil]; omega)) ?_; conv => whnf) | ((with_reducible first | refine branch_tt ?_ | refine branch_ff ?_); conv => whnf) | (with_reducible refine branch_not ?_) | ((with_reducible first | refine slc_e ?_ | refine callS_a ?_ | refine bld_a ?_ | refine own_e ?_ | refine mkmap_b ?_); conv => whnf)))
        refine idx_m (by omega) (by omega) fun sx hsx => ?_
        rw [Int.toNat_natCast] at hsx
        have esx := nth_eq hsx
        have nx := tot_next (P := P) (st := st) (n := n) (k := k)
        rw [esx, env] at nx
        (conv => whnf); (repeat (first | (refine arith_i ⟨by omega, by omega⟩ ?_; conv => whnf) | (refine need_i (by first | omega | (simp only [List.length_append, List.length_cons, List.length_nil]; omega)) ?_; conv => whnf) | ((with_reducible first | refine branch_tt ?_ | refine branch_ff ?_); conv => whnf) | (with_reducible refine branch_not ?_) | ((with_reducible first | refine slc_e ?_ | refine callS_a ?_ | refine bld_a ?_ | refine own_e ?_ | refine mkmap_b ?_); conv => whnf)))
        refine branch_e (fun e1 => ?_) (fun e1 => ?_)
        · rw [contr, if_pos e1] at nx
          (conv => whnf); (repeat (first | (refine arith_i ⟨by omega, by omega⟩ ?_; conv => whnf) | (refine need_i (by first | omega | (simp only [List.length_append, List.length_cons, List.length_nil]; omega)) ?_; conv => whnf) | ((with_reducible first | refine branch_tt ?_ | refine branch_ff ?_); conv => whnf) | (with_reducible refine branch_not ?_) | ((with_reducible first | refine slc_e ?_ | refine callS_a ?_ | refine bld_a ?_ | refine own_e ?_ | refine mkmap_b ?_); conv => whnf)))
          exact ⟨k + 1, by omega, le_mk ⟨rfl, rfl, rfl, rfl, int_eq (by rw [nx]), rfl, rfl, rfl, trivial⟩ ⟨rfl, rfl, rfl, trivial⟩ rfl, by omega⟩
        · rw [contr, if_neg e1] at nx
          (conv => whnf); (repeat (first | (refine arith_i ⟨by omega, by omega⟩ ?_; conv => whnf) | (refine need_i (by first | omega | (simp only [List.length_append, List.length_cons, List.length_nil]; omega)) ?_; conv => whnf) | ((with_reducible first | refine branch_tt ?_ | refine branch_ff ?_); conv => whnf) | (with_reducible refine branch_not ?_) | ((with_reducible first | refine slc_e ?_ | refine callS_a ?_ | refine bld_a ?_ | refine own_e ?_ | refine mkmap_b ?_); conv => whnf)))
          refine branch_e (fun e2 => ?_) (fun e2 => ?_)
          · rw [if_pos e2] at nx
            (conv => whnf); (repeat (first | (refine arith_i ⟨by omega, by omega⟩ ?_; conv => whnf) | (refine need_i (by first | omega | (simp only [List.length_append, List.length_cons, List.length_nil]; omega)) ?_; conv => whnf) | ((with_reducible first | refine branch_tt ?_ | refine branch_ff ?_); conv => whnf) | (with_reducible refine branch_not ?_) | ((with_reducible first | refine slc_e ?_ | refine callS_a ?_ | refine bld_a ?_ | refine own_e ?_ | refine mkmap_b ?_); conv => whnf)))
            exact ⟨k + 1, by omega, le_mk ⟨rfl, rfl, rfl, rfl, int_eq (by rw [nx, min_if]), rfl, rfl, rfl, trivial⟩ ⟨rfl, rfl, rfl, trivial⟩ rfl, by omega⟩
          · rw [if_neg e2, Int.add_zero] at nx
            (conv => whnf); (repeat (first | (refine arith_i ⟨by omega, by omega⟩ ?_; conv => whnf) | (refine need_i (by first | omega | (simp only [List.length_append, List.length_cons, List.length_nil]; omega)) ?_; conv => whnf) | ((with_reducible first | refine branch_tt ?_ | refine branch_ff ?_); conv => whnf) | (with_reducible refine branch_not ?_) | ((with_reducible first | refine slc_e ?_ | refine callS_a ?_ | refine bld_a ?_ | refine own_e ?_ | refine mkmap_b ?_); conv => whnf)))
            exact ⟨k + 1, by omega, le_mk ⟨rfl, rfl, rfl, rfl, int_eq (by rw [nx]), rfl, rfl, rfl, trivial⟩ ⟨rfl, rfl, rfl, trivial⟩ rfl, by omega⟩
      · have hkn : k = P.costs.length := by omega
        subst hkn
        (conv => whnf); (repeat (first | (refine arith_i ⟨by omega, by omega⟩ ?_; conv => whnf) | (refine need_i (by first | omega | (simp only [List.length_append, List.length_cons, List.length_nil]; omega)) ?_; conv => whnf) | ((with_reducible first | refine branch_tt ?_ | refine branch_ff ?_); conv => whnf) | (with_reducible refine branch_not ?_) | ((with_reducible first | refine slc_e ?_ | refine callS_a ?_ | refine bld_a ?_ | refine own_e ?_ | refine mkmap_b ?_); conv => whnf)))
        refine call_e (ceil_ok (totF P st n P.costs.length) n.den (by omega) hd (by have := tdiv_in (a := totF P st n P.costs.length) hd.1; omega)) ?_
        (conv => whnf); (repeat (first | (refine arith_i ⟨by omega, by omega⟩ ?_; conv => whnf) | (refine need_i (by first | omega | (simp only [List.length_append, List.length_cons, List.length_nil]; omega)) ?_; conv => whnf) | ((with_reducible first | refine branch_tt ?_ | refine branch_ff ?_); conv => whnf) | (with_reducible refine branch_not ?_) | ((with_reducible first | refine slc_e ?_ | refine callS_a ?_ | refine bld_a ?_ | refine own_e ?_ | refine mkmap_b ?_); conv => whnf)))
        exact ret_p rfl rfl
end Go.Proofs.Ytjbmdaoppiinbaa
end

/- Layer 9 by the interpreter: Bound. -/
section
namespace Go.Proofs.Ytjbmdaoppiinbaa
set_option linter.unusedVariables false
set_option linter.unusedSimpArgs false
set_option linter.unnecessarySimpa false
set_option linter.unusedSectionVars false
set_option maxRecDepth 10000
open Go.RowKit

def okB (P : Prog) (st : List Int) (n : Nd) : Bool := validB P && stOB st P.costs.length && bndB P.rows.length n
def boundV (P : Prog) (st : List Int) (n : Nd) : AV := .tup [.int .i64 (if okB P st n = true then boundF P st n else 0), .bool (okB P st n)]
theorem bound_ok (P : Prog) (st : List Int) (n : Nd) (hP : Fits P) (hl : st.length ≤ 1000000) : Good Try.prog TT false 25 [progV P, ints st, .agg (encN n)] (· = boundV P st n) := by
  have L1 : (P.costs.map encI).length = P.costs.length := List.length_map ..
  have bad : okB P st n = false → aret (.tup [.int .i64 0, .bool false]) (· = boundV P st n) := fun h =>
    ret_t (rs := [.int .i64 0, .bool false]) ⟨(rc_p rfl).g, (rc_p rfl).g, trivial⟩ (by rw [boundV, h]; rfl)
  refine good_of mixed tabOk Try.func25 rfl rfl Try.ntmps25 Try.results25 rfl rfl ?_
  (conv => whnf); (repeat (first | (refine arith_i ⟨by omega, by omega⟩ ?_; conv => whnf) | (refine need_i (by first | omega | (simp only [List.length_append, List.length_cons, List.length_nil]; omega)) ?_; conv => whnf) | ((with_reducible first | refine branch_tt ?_ | refine branch_ff ?_); conv => whnf) | (with_reducible refine branch_not ?_) | ((with_reducible first | refine slc_e ?_ | refine callS_a ?_ | refine bld_a ?_ | refine own_e ?_ | refine mkmap_b ?_); conv => whnf)))
  refine call_e (valid_ok P hP.1 hP.2.1 hP.2.2) ?_
  (conv => whnf); (repeat (first | (refine arith_i ⟨by omega, by omega⟩ ?_; conv => whnf) | (refine need_i (by first | omega | (simp only [List.length_append, List.length_cons, List.length_nil]; omega)) ?_; conv => whnf) | ((with_reducible first | refine branch_tt ?_ | refine branch_ff ?_); conv => whnf) | (with_reducible refine branch_not ?_) | ((with_reducible first | refine slc_e ?_ | refine callS_a ?_ | refine bld_a ?_ | refine own_e ?_ | refine mkmap_b ?_); conv => whnf)))
  refine branch_i (fun hv => ?_) (fun hv => ?_)
  · (conv => whnf); (repeat (first | (refine arith_i ⟨by omega, by omega⟩ ?_; conv => whnf) | (refine need_i (by first | omega | (simp only [List.length_append, List.length_cons, List.length_nil]; omega)) ?_; conv => whnf) | ((with_reducible first | refine branch_tt ?_ | refine branch_ff ?_); conv => whnf) | (with_reducible refine branch_not ?_) | ((with_reducible first | refine slc_e ?_ | refine callS_a ?_ | refine bld_a ?_ | refine own_e ?_ | refine mkmap_b ?_); conv => whnf)))
    have hG : Good Try.prog TT false 34 [ints st, .int .i64 (P.costs.map encI).length] (· = .bool (stOB st P.costs.length)) := by rw [L1]; exact oState_ok st P.costs.length hl
    refine call_e hG ?_
    (conv => whnf); (repeat (first | (refine arith_i ⟨by omega, by omega⟩ ?_; conv => whnf) | (refine need_i (by first | omega | (simp only [List.length_append, List.length_cons, List.length_nil]; omega)) ?_; conv => whnf) | ((with_reducible first | refine branch_tt ?_ | refine branch_ff ?_); conv => whnf) | (with_reducible refine branch_not ?_) | ((with_reducible first | refine slc_e ?_ | refine callS_a ?_ | refine bld_a ?_ | refine own_e ?_ | refine mkmap_b ?_); conv => whnf)))
    refine branch_i (fun hs => ?_) (fun hs => ?_)
    · (conv => whnf); (repeat (first | (refine arith_i ⟨by omega, by omega⟩ ?_; conv => whnf) | (refine need_i (by first | omega | (simp only [List.length_append, List.length_cons, List.length_nil]; omega)) ?_; conv => whnf) | ((with_reducible first | refine branch_tt ?_ | refine branch_ff ?_); conv => whnf) | (with_reducible refine branch_not ?_) | ((with_reducible first | refine slc_e ?_ | refine callS_a ?_ | refine bld_a ?_ | refine own_e ?_ | refine mkmap_b ?_); conv => whnf)))
      refine call_e (oBound_ok P n) ?_
      (conv => whnf); (repeat (first | (refine arith_i ⟨by omega, by omega⟩ ?_; conv => whnf) | (refine need_i (by first | omega | (simp only [List.length_append, List.length_cons, List.length_nil]; omega)) ?_; conv => whnf) | ((with_reducible first | refine branch_tt ?_ | refine branch_ff ?_); conv => whnf) | (with_reducible refine branch_not ?_) | ((with_reducible first | refine slc_e ?_ | refine callS_a ?_ | refine bld_a ?_ | refine own_e ?_ | refine mkmap_b ?_); conv => whnf)))
      refine branch_i (fun hb => ?_) (fun hb => ?_)
      · (conv => whnf); (repeat (first | (refine arith_i ⟨by omega, by omega⟩ ?_; conv => whnf) | (refine need_i (by first | omega | (simp only [List.length_append, List.length_cons, List.length_nil]; omega)) ?_; conv => whnf) | ((with_reducible first | refine branch_tt ?_ | refine branch_ff ?_); conv => whnf) | (with_reducible refine branch_not ?_) | ((with_reducible first | refine slc_e ?_ | refine callS_a ?_ | refine bld_a ?_ | refine own_e ?_ | refine mkmap_b ?_); conv => whnf)))
        have hlen : st.length = P.costs.length := by
          simp only [stOB, Bool.and_eq_true, decide_eq_true_eq] at hs
          omega
        refine call_e (boundOf_ok P st n hv hlen hb) ?_
        (conv => whnf); (repeat (first | (refine arith_i ⟨by omega, by omega⟩ ?_; conv => whnf) | (refine need_i (by first | omega | (simp only [List.length_append, List.length_cons, List.length_nil]; omega)) ?_; conv => whnf) | ((with_reducible first | refine branch_tt ?_ | refine branch_ff ?_); conv => whnf) | (with_reducible refine branch_not ?_) | ((with_reducible first | refine slc_e ?_ | refine callS_a ?_ | refine bld_a ?_ | refine own_e ?_ | refine mkmap_b ?_); conv => whnf)))
        have ho : okB P st n = true := by simp [okB, hv, hs, hb]
        exact ret_t (rs := [.int .i64 (boundF P st n), .bool true]) ⟨(rc_p rfl).g, (rc_p rfl).g, trivial⟩ (by rw [boundV, ho]; rfl)
      · (conv => whnf); (repeat (first | (refine arith_i ⟨by omega, by omega⟩ ?_; conv => whnf) | (refine need_i (by first | omega | (simp only [List.length_append, List.length_cons, List.length_nil]; omega)) ?_; conv => whnf) | ((with_reducible first | refine branch_tt ?_ | refine branch_ff ?_); conv => whnf) | (with_reducible refine branch_not ?_) | ((with_reducible first | refine slc_e ?_ | refine callS_a ?_ | refine bld_a ?_ | refine own_e ?_ | refine mkmap_b ?_); conv => whnf)))
        exact bad (by simp [okB, hb])
    · (conv => whnf); (repeat (first | (refine arith_i ⟨by omega, by omega⟩ ?_; conv => whnf) | (refine need_i (by first | omega | (simp only [List.length_append, List.length_cons, List.length_nil]; omega)) ?_; conv => whnf) | ((with_reducible first | refine branch_tt ?_ | refine branch_ff ?_); conv => whnf) | (with_reducible refine branch_not ?_) | ((with_reducible first | refine slc_e ?_ | refine callS_a ?_ | refine bld_a ?_ | refine own_e ?_ | refine mkmap_b ?_); conv => whnf)))
      exact bad (by simp [okB, hs])
  · (conv => whnf); (repeat (first | (refine arith_i ⟨by omega, by omega⟩ ?_; conv => whnf) | (refine need_i (by first | omega | (simp only [List.length_append, List.length_cons, List.length_nil]; omega)) ?_; conv => whnf) | ((with_reducible first | refine branch_tt ?_ | refine branch_ff ?_); conv => whnf) | (with_reducible refine branch_not ?_) | ((with_reducible first | refine slc_e ?_ | refine callS_a ?_ | refine bld_a ?_ | refine own_e ?_ | refine mkmap_b ?_); conv => whnf)))
    exact bad (by simp [okB, hv])
end Go.Proofs.Ytjbmdaoppiinbaa
end

/- More moves of the interpreter: elements of lists of encoded data. -/
section
namespace Go.Proofs.Ytjbmdaoppiinbaa
set_option linter.unusedVariables false
set_option linter.unusedSimpArgs false
set_option linter.unnecessarySimpa false
set_option linter.unusedSectionVars false
set_option maxRecDepth 10000
open Go.RowKit
theorem idx_c {α : Type} {enc : α → List AV} {xs : List α} {k : Nat} {K : List AV → Prop} (h1 : k < xs.length) (h : ∀ x, xs[k]? = some x → K (enc x)) : idx (xs.map enc) (k : Int) K :=
  idx_m (by omega) (by omega) fun x hx => h x (by rwa [Int.toNat_natCast] at hx)
theorem idx_cs {α : Type} {enc : α → List AV} {xs : List α} {k : Nat} {x : α} {K : List AV → Prop} (h1 : xs[k]? = some x) (h : K (enc x)) : idx (xs.map enc) (k : Int) K :=
  idx_i (by omega) (by rw [Int.toNat_natCast, List.getElem?_map, h1]; rfl) h
theorem idx_ms {α : Type} {enc : α → List AV} {xs : List α} {n : Int} {x : α} {K : List AV → Prop} (h0 : 0 ≤ n) (h1 : xs[n.toNat]? = some x) (h : K (enc x)) : idx (xs.map enc) n K :=
  idx_i h0 (by rw [List.getElem?_map, h1]; rfl) h
theorem idx_r {c : List AV} {n : Nat} {i : Int} {K : List AV → Prop} (h0 : 0 ≤ i) (h1 : i < n) (h : K c) : idx (List.replicate n c) i K :=
  idx_i h0 (by rw [List.getElem?_replicate, if_pos (by omega)]) h
theorem drop_at {α : Type} {xs : List α} {k : Nat} {x : α} (h : xs[k]? = some x) : xs.drop k = x :: xs.drop (k + 1) := by
  obtain ⟨h1, h2⟩ := List.getElem?_eq_some_iff.1 h
  rw [List.drop_eq_getElem_cons h1, h2]
theorem drop_end {α : Type} {xs : List α} {k : Nat} (h : xs.length ≤ k) : xs.drop k = [] := List.drop_eq_nil_of_le h
section
variable {P : Program} {T : Nat → Ty} {tt : Nat}
theorem loop_i2 {α β : Type} {s : St} (I : α → β → Prop) (st : α → β → St) (μ : α → β → Nat) {body : (Ex → St → Prop) → St → Prop} {Q : Ex → St → Prop} (a0 : α) (b0 : β) (h0 : I a0 b0) (hle : Le tt s (st a0 b0))
    (h : ∀ a b, I a b → body (fun e s' => match e with | .norm => ∃ a' b', I a' b' ∧ Le tt s' (st a' b') ∧ μ a' b' < μ a b | .exit i => Q (.exit i) s' | .ret => Q .ret s') (st a b)) : aloop tt body Q s :=
  loop_i (fun x : α × β => I x.1 x.2) (fun x => st x.1 x.2) (fun x => μ x.1 x.2) (a0, b0) h0 hle fun x hx => by
    refine Eq.mp (congrArg (fun K => body K (st x.1 x.2)) (funext fun e => funext fun s' => ?_)) (h x.1 x.2 hx)
    cases e <;> first | rfl | simp only [Prod.exists]
theorem loop_i3 {α β γ : Type} {s : St} (I : α → β → γ → Prop) (st : α → β → γ → St) (μ : α → β → γ → Nat) {body : (Ex → St → Prop) → St → Prop} {Q : Ex → St → Prop} (a0 : α) (b0 : β) (c0 : γ) (h0 : I a0 b0 c0) (hle : Le tt s (st a0 b0 c0))
    (h : ∀ a b c, I a b c → body (fun e s' => match e with | .norm => ∃ a' b' c', I a' b' c' ∧ Le tt s' (st a' b' c') ∧ μ a' b' c' < μ a b c | .exit i => Q (.exit i) s' | .ret => Q .ret s') (st a b c)) : aloop tt body Q s :=
  loop_i (fun x : α × β × γ => I x.1 x.2.1 x.2.2) (fun x => st x.1 x.2.1 x.2.2) (fun x => μ x.1 x.2.1 x.2.2) (a0, b0, c0) h0 hle fun x hx => by
    refine Eq.mp (congrArg (fun K => body K (st x.1 x.2.1 x.2.2)) (funext fun e => funext fun s' => ?_)) (h x.1 x.2.1 x.2.2 hx)
    cases e <;> first | rfl | simp only [Prod.exists]
end
end Go.Proofs.Ytjbmdaoppiinbaa
end

/- Layer 8, the reference by the interpreter: Valid, State, Choice, Sum, Meets, Cost, Span, Blocked, Dead. -/
section
namespace Go.Proofs.Ytjbmdaoppiinbaa
set_option linter.unusedVariables false
set_option linter.unusedSimpArgs false
set_option linter.unnecessarySimpa false
set_option linter.unusedSectionVars false
set_option maxRecDepth 10000
open Go.RowKit
theorem costs_in {P : Prog} (h : validB P = true) : ∀ i, i < P.costs.length → -10000 ≤ nth P.costs i ∧ nth P.costs i ≤ 10000 := fun i hi => by
  have := costB_iff.1 (AllTo.of_all (validB_parts h).2.2.1 i hi)
  omega
theorem cost_ret (P : Prog) (ch : List Int) {x : Int} {b : Bool} (h1 : x = costF P ch) (h2 : b = costOk P ch) : aret (.tup [.int .i64 x, .bool b]) (· = .tup [.int .i64 (costF P ch), .bool (costOk P ch)]) := by
  subst h1 h2
  exact ret_t (rs := [_, _]) ⟨(rc_p rfl).g, (rc_p rfl).g, trivial⟩ rfl
theorem cost_ok (P : Prog) (ch : List Int) (hP : Fits P) (hl : ch.length ≤ 1000000) : Good Try.prog TT false 12 [progV P, ints ch] (· = .tup [.int .i64 (costF P ch), .bool (costOk P ch)]) := by
  have L : (P.costs.map encI).length = P.costs.length := List.length_map ..
  have LR : (P.rows.map encRow).length = P.rows.length := List.length_map ..
  have hP1 := hP.1
  have hP2 := hP.2.1
  refine good_of mixed tabOk Try.func12 rfl rfl Try.ntmps12 Try.results12 rfl rfl ?_
  (conv => whnf); (repeat' (first | (refine arith_i ⟨by omega, by omega⟩ ?_; conv => whnf) | (refine arith_u ⟨by omega, by omega⟩ ?_; conv => whnf) | (refine arith_8 ⟨by omega, by omega⟩ ?_; conv => whnf) | (refine need_i (by first | omega | (simp only [List.length_cons, List.length_nil]; omega) | (simp only [List.length_append, List.length_cons, List.length_nil, List.length_map, List.length_replicate, List.length_modify]; omega)) ?_; conv => whnf) | ((with_reducible first | refine branch_tt ?_ | refine branch_ff ?_); conv => whnf) | (with_reducible refine branch_not ?_) | ((refine call_e (valid_ok P hP.1 hP.2.1 hP.2.2) ?_); conv => whnf) | ((rw [L]; refine call_e (isChoice_ok ch P.costs.length hl hP1) ?_); conv => whnf) | ((refine call_e (sumOver_ok _ _ hl (costs_in (by assumption)) (fun i hi => choice_in (by assumption) hi)) ?_); conv => whnf) | ((with_reducible first | refine slc_e ?_ | refine callS_a ?_ | refine bld_a ?_ | refine own_e ?_ | refine mkmap_b ?_); conv => whnf) | ((with_reducible first | refine branch_d (fun hq => ?_) (fun hq => ?_) | refine branch_e (fun hq => ?_) (fun hq => ?_) | refine branch_n (fun hq => ?_) (fun hq => ?_) | refine branch_i (fun hq => ?_) (fun hq => ?_)) <;> (try (exfalso; omega)) <;> (conv => whnf))))
  all_goals exact cost_ret P ch (by simp [costF, costOk, *]) (by simp [costOk, *])
theorem stO_state {st : List Int} {n : Nat} (hn : n ≤ 12) : stOB st n = isStateB st n := by
  have e : st.all tri9 = st.all triB := rfl
  rw [Bool.eq_iff_iff]
  simp [stOB, isStateB, e, hn]
  omega
end Go.Proofs.Ytjbmdaoppiinbaa
end

/- Layer 10, plain: the choices in ascending order, the cheapest one. No program in sight. -/
section
namespace Go.Proofs.Ytjbmdaoppiinbaa
set_option linter.unusedVariables false
set_option linter.unusedSimpArgs false
set_option linter.unnecessarySimpa false
set_option linter.unusedSectionVars false

/-- Whether a choice meets all rows. -/
def metB (P : Prog) (ch : List Int) : Bool := P.rows.all (meetB ch)
def here (P : Prog) (ch : List Int) : List (List Int) := if metB P ch then [ch] else []
/-- The choices that begin with ch and go on with options from a number on, m of them at most; ascending. -/
def loopF (P : Prog) : Nat → List Int → Nat → List (List Int)
  | 0, _, _ => []
  | m + 1, ch, i => here P (ch ++ [(i : Int)]) ++ loopF P m (ch ++ [(i : Int)]) (i + 1) ++ loopF P m ch (i + 1)
def visF (P : Prog) (ch : List Int) (i : Nat) : List (List Int) := here P ch ++ loopF P (P.costs.length - i) ch i
/-- All choices that meet the rows. -/
def allF (P : Prog) : List (List Int) := visF P [] 0
/-- The cheapest so far: found, cost, choice. -/
def bestS (P : Prog) (σ : Bool × Int × List Int) (ch : List Int) : Bool × Int × List Int :=
  if σ.1 = false ∨ sumOf P.costs ch < σ.2.1 then (true, sumOf P.costs ch, ch) else σ
def bestF (P : Prog) : Bool × Int × List Int := (allF P).foldl (bestS P) (false, 0, [])

/-- Ascending options within bounds. -/
def Asc (lo hi : Nat) (ch : List Int) : Prop := ch.Pairwise (· < ·) ∧ ∀ x ∈ ch, (lo : Int) ≤ x ∧ x < hi
theorem asc_choice {n : Nat} {ch : List Int} (h : Asc 0 n ch) : choiceB ch n = true := choice_of_asc h.1 fun x hx => by have := h.2 x hx; omega
theorem Asc.snoc {i n : Nat} {ch : List Int} (h : Asc 0 i ch) (hi : i < n) : Asc 0 (i + 1) (ch ++ [(i : Int)]) := by
  refine ⟨List.pairwise_append.2 ⟨h.1, List.pairwise_singleton _ _, fun x hx y hy => ?_⟩, fun x hx => ?_⟩
  · rw [List.mem_singleton.1 hy]; exact (h.2 x hx).2
  · rcases List.mem_append.1 hx with hx | hx
    · have := h.2 x hx; omega
    · rw [List.mem_singleton.1 hx]; omega
theorem Asc.mono {lo hi hi' : Nat} {ch : List Int} (h : Asc lo hi ch) (hh : hi ≤ hi') : Asc lo hi' ch := ⟨h.1, fun x hx => by have := h.2 x hx; omega⟩
/-- What is in the list. -/
theorem loop_mem {P : Prog} {c : List Int} : ∀ {m : Nat} {ch : List Int} {i : Nat}, c ∈ loopF P m ch i ↔ ∃ t, t ≠ [] ∧ Asc i (i + m) t ∧ c = ch ++ t ∧ metB P c = true
  | 0, ch, i => by
    simp only [loopF, List.not_mem_nil, false_iff]
    rintro ⟨t, h0, h1, -, -⟩
    cases t with
    | nil => exact h0 rfl
    | cons x t => have := h1.2 x (by simp); omega
  | m + 1, ch, i => by
    simp only [loopF, List.mem_append, loop_mem (m := m)]
    constructor
    · rintro ((h | ⟨t, h0, h1, h2, h3⟩) | ⟨t, h0, h1, h2, h3⟩)
      · simp only [here] at h
        split at h
        · next hm =>
          rw [List.mem_singleton.1 h]
          exact ⟨[(i : Int)], by simp, ⟨List.pairwise_singleton _ _, fun x hx => by rw [List.mem_singleton.1 hx]; omega⟩, rfl, hm⟩
        · simp at h
      · refine ⟨(i : Int) :: t, by simp, ⟨List.pairwise_cons.2 ⟨fun x hx => by have := h1.2 x hx; omega, h1.1⟩, fun x hx => ?_⟩, by rw [h2]; simp, h3⟩
        rcases List.mem_cons.1 hx with rfl | hx
        · omega
        · have := h1.2 x hx; omega
      · exact ⟨t, h0, ⟨h1.1, fun x hx => by have := h1.2 x hx; omega⟩, h2, h3⟩
    · rintro ⟨t, h0, h1, h2, h3⟩
      cases t with
      | nil => exact absurd rfl h0
      | cons x t =>
        have hx := h1.2 x (by simp)
        have hp := List.pairwise_cons.1 h1.1
        by_cases e : x = i
        · subst e
          left
          by_cases ht : t = []
          · subst ht
            left
            simp only [here]
            rw [h2] at h3
            rw [if_pos h3, h2]
            simp
          · right
            exact ⟨t, ht, ⟨hp.2, fun y hy => by have := hp.1 y hy; have := h1.2 y (by simp [hy]); omega⟩, by rw [h2]; simp, h3⟩
        · right
          exact ⟨x :: t, by simp, ⟨h1.1, fun y hy => by
            have h4 := h1.2 y hy
            rcases List.mem_cons.1 hy with rfl | hy
            · omega
            · have := hp.1 y hy; omega⟩, h2, h3⟩
theorem all_mem {P : Prog} {c : List Int} : c ∈ allF P ↔ Asc 0 P.costs.length c ∧ metB P c = true := by
  simp only [allF, visF, List.mem_append, loop_mem, here]
  constructor
  · rintro (h | ⟨t, h0, h1, h2, h3⟩)
    · split at h
      · next hm => rw [List.mem_singleton.1 h]; exact ⟨⟨List.Pairwise.nil, by simp⟩, hm⟩
      · simp at h
    · rw [List.nil_append] at h2
      subst h2
      exact ⟨⟨h1.1, fun x hx => by have := h1.2 x hx; omega⟩, h3⟩
  · rintro ⟨h1, h2⟩
    by_cases hc : c = []
    · subst hc; left; rw [if_pos h2]; simp
    · right
      exact ⟨c, hc, ⟨h1.1, fun x hx => by have := h1.2 x hx; omega⟩, by simp, h2⟩
theorem meets_asc {P : Prog} {c : List Int} (hv : validB P = true) (h : Asc 0 P.costs.length c) : meetsB P c = metB P c := by
  simp only [meetsB, hv, asc_choice h, Bool.true_and, metB]
theorem all_meets {P : Prog} {c : List Int} (hv : validB P = true) (h : c ∈ allF P) : meetsB P c = true ∧ costF P c = sumOf P.costs c ∧ Asc 0 P.costs.length c := by
  obtain ⟨h1, h2⟩ := all_mem.1 h
  exact ⟨by rw [meets_asc hv h1]; exact h2, by rw [costF, if_pos]; simp [costOk, hv, asc_choice h1], h1⟩
theorem sub_Asc (t n : Nat) : Asc 0 n (subTo t n) := ⟨sub_asc t n, fun x hx => by
  obtain ⟨i, h1, h2, _⟩ := mem_sub.1 hx
  subst h2
  omega⟩
/-! in ascending order -/
def befB : List Int → List Int → Bool
  | x :: a, y :: b => if x = y then befB a b else decide (x < y)
  | [], _ :: _ => true
  | _, [] => false
theorem bef_pre (p a b : List Int) : befB (p ++ a) (p ++ b) = befB a b := by
  induction p with
  | nil => rfl
  | cons x p ih => simp only [List.cons_append, befB, if_pos, ih]
theorem loop_sorted {P : Prog} : ∀ {m : Nat} {ch : List Int} {i : Nat}, (loopF P m ch i).Pairwise (fun a b => befB a b = true)
  | 0, ch, i => by simp [loopF]
  | m + 1, ch, i => by
    simp only [loopF]
    refine List.pairwise_append.2 ⟨List.pairwise_append.2 ⟨?_, loop_sorted, fun a ha b hb => ?_⟩, loop_sorted, fun a ha b hb => ?_⟩
    · simp only [here]; split <;> simp
    · simp only [here] at ha
      split at ha
      · rw [List.mem_singleton.1 ha]
        obtain ⟨t, h0, h1, h2, h3⟩ := loop_mem.1 hb
        subst h2
        have := bef_pre (ch ++ [(i : Int)]) [] t
        rw [List.append_nil] at this
        rw [this]
        cases t with
        | nil => exact absurd rfl h0
        | cons x t => rfl
      · simp at ha
    · obtain ⟨t, h0, h1, h2, h3⟩ := loop_mem.1 hb
      subst h2
      have hx : ∃ s, a = ch ++ ((i : Int) :: s) := by
        rcases List.mem_append.1 ha with ha | ha
        · simp only [here] at ha
          split at ha
          · rw [List.mem_singleton.1 ha]; exact ⟨[], rfl⟩
          · simp at ha
        · obtain ⟨s, _, _, h, _⟩ := loop_mem.1 ha
          exact ⟨s, by rw [h]; simp⟩
      obtain ⟨s, rfl⟩ := hx
      rw [bef_pre]
      cases t with
      | nil => exact absurd rfl h0
      | cons x t =>
        have := h1.2 x (by simp)
        simp only [befB]
        rw [if_neg (by omega)]
        simp; omega
theorem all_sorted {P : Prog} : (allF P).Pairwise (fun a b => befB a b = true) := by
  simp only [allF, visF]
  refine List.pairwise_append.2 ⟨by simp only [here]; split <;> simp, loop_sorted, fun a ha b hb => ?_⟩
  simp only [here] at ha
  split at ha
  · rw [List.mem_singleton.1 ha]
    obtain ⟨t, h0, h1, h2, h3⟩ := loop_mem.1 hb
    rw [List.nil_append] at h2
    rw [h2]
    cases t with
    | nil => exact absurd rfl h0
    | cons x t => rfl
  · simp at ha
theorem bef_asymm : ∀ {a b : List Int}, befB a b = true → befB b a = false
  | [], [], h => by cases h
  | [], _ :: _, _ => rfl
  | _ :: _, [], h => by cases h
  | x :: a, y :: b, h => by
    simp only [befB] at h ⊢
    by_cases e : x = y
    · subst e; simp only [if_true] at h ⊢; exact bef_asymm h
    · rw [if_neg e] at h
      rw [if_neg (Ne.symm e)]
      simp at h ⊢; omega
/-! the cheapest -/
structure BestIs (P : Prog) (l : List (List Int)) (σ : Bool × Int × List Int) : Prop where
  none : σ.1 = false → l = [] ∧ σ = (false, 0, [])
  mem : σ.1 = true → σ.2.2 ∈ l ∧ σ.2.1 = sumOf P.costs σ.2.2
  least : σ.1 = true → ∀ c ∈ l, σ.2.1 ≤ sumOf P.costs c
  first : σ.1 = true → ∃ l1 l2, l = l1 ++ σ.2.2 :: l2 ∧ ∀ c ∈ l1, σ.2.1 < sumOf P.costs c
theorem best_step {P : Prog} {l : List (List Int)} {σ : Bool × Int × List Int} (h : BestIs P l σ) (c : List Int) : BestIs P (l ++ [c]) (bestS P σ c) := by
  unfold bestS
  by_cases hs : σ.1 = false
  · rw [if_pos (.inl hs)]
    obtain ⟨rfl, -⟩ := h.none hs
    exact ⟨nofun, fun _ => ⟨by simp, rfl⟩, fun _ x hx => by simp at hx; subst hx; exact Int.le_refl _, fun _ => ⟨[], [], rfl, by simp⟩⟩
  · have ht : σ.1 = true := by simpa using hs
    by_cases hc : sumOf P.costs c < σ.2.1
    · rw [if_pos (.inr hc)]
      refine ⟨nofun, fun _ => ⟨by simp, rfl⟩, fun _ x hx => ?_, fun _ => ⟨l, [], rfl, fun x hx => ?_⟩⟩
      · rcases List.mem_append.1 hx with hx | hx
        · have := h.least ht x hx; show sumOf P.costs c ≤ _; omega
        · rw [List.mem_singleton.1 hx]; exact Int.le_refl _
      · have := h.least ht x hx; show sumOf P.costs c < _; omega
    · rw [if_neg (by simp [hs, hc])]
      refine ⟨fun e => absurd e hs, fun _ => ⟨by simp [(h.mem ht).1], (h.mem ht).2⟩, fun _ x hx => ?_, fun _ => ?_⟩
      · rcases List.mem_append.1 hx with hx | hx
        · exact h.least ht x hx
        · rw [List.mem_singleton.1 hx]; omega
      · obtain ⟨l1, l2, h1, h2⟩ := h.first ht
        exact ⟨l1, l2 ++ [c], by rw [h1]; simp, h2⟩
theorem best_fold {P : Prog} : ∀ (l2 l1 : List (List Int)) (σ : Bool × Int × List Int), BestIs P l1 σ → BestIs P (l1 ++ l2) (l2.foldl (bestS P) σ)
  | [], l1, σ, h => by simpa using h
  | c :: l2, l1, σ, h => by
    have := best_fold l2 (l1 ++ [c]) _ (best_step h c)
    simpa using this
theorem best_is (P : Prog) : BestIs P (allF P) (bestF P) := by
  have := best_fold (P := P) (allF P) [] (false, 0, []) ⟨fun _ => ⟨rfl, rfl⟩, nofun, nofun, nofun⟩
  simpa [bestF] using this
end Go.Proofs.Ytjbmdaoppiinbaa
end

/- Small things of layer 6's reference: Has, Ints. -/
section
namespace Go.Proofs.Ytjbmdaoppiinbaa
set_option linter.unusedVariables false
set_option linter.unusedSimpArgs false
set_option linter.unnecessarySimpa false
set_option linter.unusedSectionVars false
set_option maxRecDepth 10000
open Go.RowKit
def plGL00_0 : Plan := (.take 0 (.take 1 (.take 2 (.take 3 (.take 4 (.take 5 (.take 6 (.take 7 (.take 8 .done)))))))))
def plGL00_1 : Plan := (.take 0 (.take 1 (.take 2 (.take 4 (.take 5 (.take 6 (.alt 3 (.alt 7 (.take 8 .done) .stop) (.alt 7 (.alt 3 (.take 8 .done) .stop) .stop))))))))
theorem nth_ext {a b : List Int} (hl : a.length = b.length) (h : ∀ i, i < a.length → nth a i = nth b i) : a = b := by
  refine List.ext_getElem? fun i => ?_
  rcases Nat.lt_or_ge i a.length with hi | hi
  · rw [nth_some hi, nth_some (by omega), h i hi]
  · rw [List.getElem?_eq_none hi, List.getElem?_eq_none (by omega)]
theorem rc_o' {t : Tg} {e z : Nat} {es es' : List (List AV)} (h : es = es') : RetC (.own t e z es) (.lst z es') := h ▸ rc_o
theorem ne_at {a b : List Int} {k : Nat} {x y : Int} (ha : a[k]? = some x) (hb : b[k]? = some y) (h : x ≠ y) : a ≠ b := fun e => by subst e; rw [ha] at hb; injection hb with hb; exact h hb
theorem eq_upto {a b : List Int} (hl : a.length = b.length) (h : ∀ j, j < a.length → nth a j = nth b j) : a = b := nth_ext hl h
set_option maxHeartbeats 2000000 in
theorem ints_ok (a b : List Int) (ha : a.length ≤ 1000000) (hb : b.length ≤ 1000000) : Good Try.prog TT false 16 [ints a, ints b] (· = .bool (decide (a = b))) := by
  have LA : (a.map encI).length = a.length := List.length_map ..
  have LB : (b.map encI).length = b.length := List.length_map ..
  refine good_of mixed tabOk Try.func16 rfl rfl Try.ntmps16 Try.results16 rfl rfl ?_
  (conv => whnf); (repeat' (first | (refine arith_i ⟨by omega, by omega⟩ ?_; conv => whnf) | (refine arith_u ⟨by omega, by omega⟩ ?_; conv => whnf) | (refine arith_8 ⟨by omega, by omega⟩ ?_; conv => whnf) | (refine need_i (by first | omega | (simp only [List.length_cons, List.length_nil]; omega) | (simp only [List.length_append, List.length_cons, List.length_nil, List.length_map, List.length_replicate, List.length_modify]; omega)) ?_; conv => whnf) | ((with_reducible first | refine branch_tt ?_ | refine branch_ff ?_); conv => whnf) | (with_reducible refine branch_not ?_) | ((with_reducible first | refine slc_e ?_ | refine callS_a ?_ | refine bld_a ?_ | refine own_e ?_ | refine mkmap_b ?_); conv => whnf) | (refine draw_i 9 plGL00_0 (by decide +kernel) ?_; (conv => whnf); fail_if_success (guard_target =~ False)) | (refine draw_i 9 plGL00_1 (by decide +kernel) ?_; (conv => whnf); fail_if_success (guard_target =~ False)) | ((with_reducible refine And.intro ?_ ?_) <;> (conv => whnf)) | (with_reducible exact trivial) | ((with_reducible first | refine branch_d (fun hq => ?_) (fun hq => ?_) | refine branch_e (fun hq => ?_) (fun hq => ?_) | refine branch_n (fun hq => ?_) (fun hq => ?_) | refine branch_i (fun hq => ?_) (fun hq => ?_)) <;> (try (exfalso; omega)) <;> (conv => whnf))))
  · exact ret_p rfl (bool_eq (by symm; exact decide_eq_false fun e => by subst e; omega))
  · have hl : a.length = b.length := by omega
    refine loop_i (fun k : Nat => k ≤ a.length ∧ ∀ j, j < k → nth a j = nth b j) (fun k => mkSt [(0, ints a), (1, ints b), (5, .int .i64 k)] [] false) (fun k => a.length - k) 0 ⟨Nat.zero_le _, nofun⟩ (le_mk (by repeat' (first | exact trivial | rfl | apply And.intro)) (by repeat' (first | exact trivial | rfl | apply And.intro)) rfl) ?_
    rintro k ⟨hk, hall⟩
    (conv => whnf); (repeat' (first | (refine arith_i ⟨by omega, by omega⟩ ?_; conv => whnf) | (refine arith_u ⟨by omega, by omega⟩ ?_; conv => whnf) | (refine arith_8 ⟨by omega, by omega⟩ ?_; conv => whnf) | (refine need_i (by first | omega | (simp only [List.length_cons, List.length_nil]; omega) | (simp only [List.length_append, List.length_cons, List.length_nil, List.length_map, List.length_replicate, List.length_modify]; omega)) ?_; conv => whnf) | ((with_reducible first | refine branch_tt ?_ | refine branch_ff ?_); conv => whnf) | (with_reducible refine branch_not ?_) | (((refine idx_c (xs := a) (by omega) fun x hx => ?_; have hxa := nth_eq hx)); conv => whnf) | (((refine idx_c (xs := b) (by omega) fun y hy => ?_; have hyb := nth_eq hy)); conv => whnf) | ((with_reducible first | refine slc_e ?_ | refine callS_a ?_ | refine bld_a ?_ | refine own_e ?_ | refine mkmap_b ?_); conv => whnf) | (refine draw_i 9 plGL00_0 (by decide +kernel) ?_; (conv => whnf); fail_if_success (guard_target =~ False)) | (refine draw_i 9 plGL00_1 (by decide +kernel) ?_; (conv => whnf); fail_if_success (guard_target =~ False)) | ((with_reducible refine And.intro ?_ ?_) <;> (conv => whnf)) | (with_reducible exact trivial) | ((with_reducible first | refine branch_d (fun hq => ?_) (fun hq => ?_) | refine branch_e (fun hq => ?_) (fun hq => ?_) | refine branch_n (fun hq => ?_) (fun hq => ?_) | refine branch_i (fun hq => ?_) (fun hq => ?_)) <;> (try (exfalso; omega)) <;> (conv => whnf))))
    all_goals first
      | (refine ⟨k + 1, ⟨by omega, fun j hj => ?_⟩, (le_mk (by repeat' (first | exact trivial | rfl | apply And.intro)) (by repeat' (first | exact trivial | rfl | apply And.intro)) rfl), by omega⟩
         by_cases e : j = k
         · subst e; rw [hxa, hyb]; assumption
         · exact hall j (by omega))
      | exact ret_p rfl (bool_eq (by symm; exact decide_eq_false (ne_at hx hy (by assumption))))
      | exact ret_p rfl (bool_eq (by symm; exact decide_eq_true (eq_upto hl fun j hj => hall j (by omega))))
end Go.Proofs.Ytjbmdaoppiinbaa
end
