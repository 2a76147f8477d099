/- Several texts in one: GL09a, GL08r, GL09b, Pl05, GL09c, GL09d, Pl10, GL10a. -/
import Derived.Test.YtengafkfgcdpeaaJ1
import Derived.Test.YtengafkfgcdpeaaMA
/- Layer 9 by the interpreter: states, nodes, rounding up. -/
section
namespace Go.Proofs.Ytengafkfgcdpeaa
set_option linter.unusedVariables false
set_option linter.unusedSimpArgs false
set_option linter.unnecessarySimpa false
set_option linter.unusedSectionVars false
set_option maxRecDepth 10000
open Go.RowKit

structure Nd where
  kind : Int
  var : Int
  zero : Int
  one : Int
  row : Int
  num : Int
  den : Int
def encN (n : Nd) : List AV := [.int .i64 n.kind, .int .i64 n.var, .int .i64 n.zero, .int .i64 n.one, .int .i64 n.row, .int .i64 n.num, .int .i64 n.den]
def ndsV (l : List Nd) : AV := .lst 7 (l.map encN)
def tri9 (x : Int) : Bool := decide (-1 ≤ x) && decide (x ≤ 1)
def stOB (st : List Int) (n : Int) : Bool := decide ((st.length : Int) = n) && st.all tri9
theorem stO_bad {st : List Int} {n : Int} {k : Nat} {x : Int} (h : st[k]? = some x) (hb : tri9 x = false) : stOB st n = false := by
  unfold stOB
  rw [Bool.and_eq_false_iff]; right
  rw [List.all_eq_false]
  exact ⟨x, List.mem_of_getElem? h, by simp [hb]⟩
theorem stO_good {st : List Int} {n : Int} (hn : (st.length : Int) = n) {k : Nat} (hk : st.length ≤ k) (h : ∀ (i : Nat) (x : Int), i < k → st[i]? = some x → tri9 x = true) : stOB st n = true := by
  unfold stOB
  rw [Bool.and_eq_true]
  refine ⟨by simp [hn], ?_⟩
  rw [List.all_eq_true]
  intro x hx
  obtain ⟨i, hi, e⟩ := List.mem_iff_getElem.1 hx
  exact h i x (by omega) (by rw [← e]; exact List.getElem?_eq_getElem hi)
theorem oState_ok (st : List Int) (n : Int) (hl : st.length ≤ 1000000) : Good Try.prog TT false 116 [ints st, .int .i64 n] (· = .bool (stOB st n)) := by
  have L : (st.map encI).length = st.length := List.length_map ..
  refine good_of mixed tabOk Try.func116 rfl rfl Try.ntmps116 Try.results116 rfl rfl ?_
  (conv => whnf); (repeat (first | (refine arith_i ⟨by omega, by omega⟩ ?_; conv => whnf) | (refine need_i (by first | omega | (simp only [List.length_append, List.length_cons, List.length_nil]; omega)) ?_; conv => whnf) | ((with_reducible refine branch_tt ?_); conv => whnf) | ((with_reducible refine branch_ff ?_); conv => whnf) | (with_reducible refine branch_not ?_) | ((with_reducible refine slc_e ?_); conv => whnf) | ((with_reducible refine callS_a ?_); conv => whnf) | ((with_reducible refine bld_a ?_); conv => whnf) | ((with_reducible refine own_e ?_); conv => whnf) | ((with_reducible refine mkmap_b ?_); conv => whnf)))
  refine branch_n (fun h => ?_) (fun h => ?_)
  · (conv => whnf); (repeat (first | (refine arith_i ⟨by omega, by omega⟩ ?_; conv => whnf) | (refine need_i (by first | omega | (simp only [List.length_append, List.length_cons, List.length_nil]; omega)) ?_; conv => whnf) | ((with_reducible refine branch_tt ?_); conv => whnf) | ((with_reducible refine branch_ff ?_); conv => whnf) | (with_reducible refine branch_not ?_) | ((with_reducible refine slc_e ?_); conv => whnf) | ((with_reducible refine callS_a ?_); conv => whnf) | ((with_reducible refine bld_a ?_); conv => whnf) | ((with_reducible refine own_e ?_); conv => whnf) | ((with_reducible refine mkmap_b ?_); conv => whnf)))
    exact ret_p rfl (bool_eq (by simp [stOB]; omega))
  · (conv => whnf); (repeat (first | (refine arith_i ⟨by omega, by omega⟩ ?_; conv => whnf) | (refine need_i (by first | omega | (simp only [List.length_append, List.length_cons, List.length_nil]; omega)) ?_; conv => whnf) | ((with_reducible refine branch_tt ?_); conv => whnf) | ((with_reducible refine branch_ff ?_); conv => whnf) | (with_reducible refine branch_not ?_) | ((with_reducible refine slc_e ?_); conv => whnf) | ((with_reducible refine callS_a ?_); conv => whnf) | ((with_reducible refine bld_a ?_); conv => whnf) | ((with_reducible refine own_e ?_); conv => whnf) | ((with_reducible refine mkmap_b ?_); conv => whnf)))
    refine loop_i (fun k : Nat => k ≤ st.length ∧ ∀ (i : Nat) (x : Int), i < k → st[i]? = some x → tri9 x = true) (fun k => mkSt [(11, ints st), (12, .int .i64 (st.map encI).length), (13, .int .i64 k)] [] false) (fun k => st.length - k) 0 ⟨Nat.zero_le _, nofun⟩ (le_mk ⟨rfl, rfl, rfl, trivial⟩ trivial rfl) ?_
    rintro k ⟨hk, hall⟩
    (conv => whnf); (repeat (first | (refine arith_i ⟨by omega, by omega⟩ ?_; conv => whnf) | (refine need_i (by first | omega | (simp only [List.length_append, List.length_cons, List.length_nil]; omega)) ?_; conv => whnf) | ((with_reducible refine branch_tt ?_); conv => whnf) | ((with_reducible refine branch_ff ?_); conv => whnf) | (with_reducible refine branch_not ?_) | ((with_reducible refine slc_e ?_); conv => whnf) | ((with_reducible refine callS_a ?_); conv => whnf) | ((with_reducible refine bld_a ?_); conv => whnf) | ((with_reducible refine own_e ?_); conv => whnf) | ((with_reducible refine mkmap_b ?_); conv => whnf)))
    refine branch_d (fun h1 => ?_) (fun h1 => ?_)
    · (conv => whnf); (repeat (first | (refine arith_i ⟨by omega, by omega⟩ ?_; conv => whnf) | (refine need_i (by first | omega | (simp only [List.length_append, List.length_cons, List.length_nil]; omega)) ?_; conv => whnf) | ((with_reducible refine branch_tt ?_); conv => whnf) | ((with_reducible refine branch_ff ?_); conv => whnf) | (with_reducible refine branch_not ?_) | ((with_reducible refine slc_e ?_); conv => whnf) | ((with_reducible refine callS_a ?_); conv => whnf) | ((with_reducible refine bld_a ?_); conv => whnf) | ((with_reducible refine own_e ?_); conv => whnf) | ((with_reducible refine mkmap_b ?_); conv => whnf)))
      refine idx_m (by omega) (by omega) fun x hx => ?_
      rw [Int.toNat_natCast] at hx
      (conv => whnf); (repeat (first | (refine arith_i ⟨by omega, by omega⟩ ?_; conv => whnf) | (refine need_i (by first | omega | (simp only [List.length_append, List.length_cons, List.length_nil]; omega)) ?_; conv => whnf) | ((with_reducible refine branch_tt ?_); conv => whnf) | ((with_reducible refine branch_ff ?_); conv => whnf) | (with_reducible refine branch_not ?_) | ((with_reducible refine slc_e ?_); conv => whnf) | ((with_reducible refine callS_a ?_); conv => whnf) | ((with_reducible refine bld_a ?_); conv => whnf) | ((with_reducible refine own_e ?_); conv => whnf) | ((with_reducible refine mkmap_b ?_); conv => whnf)))
      refine branch_d (fun h2 => ?_) (fun h2 => ?_)
      · (conv => whnf); (repeat (first | (refine arith_i ⟨by omega, by omega⟩ ?_; conv => whnf) | (refine need_i (by first | omega | (simp only [List.length_append, List.length_cons, List.length_nil]; omega)) ?_; conv => whnf) | ((with_reducible refine branch_tt ?_); conv => whnf) | ((with_reducible refine branch_ff ?_); conv => whnf) | (with_reducible refine branch_not ?_) | ((with_reducible refine slc_e ?_); conv => whnf) | ((with_reducible refine callS_a ?_); conv => whnf) | ((with_reducible refine bld_a ?_); conv => whnf) | ((with_reducible refine own_e ?_); conv => whnf) | ((with_reducible refine mkmap_b ?_); conv => whnf)))
        exact ret_p rfl (bool_eq (stO_bad hx (by simp [tri9]; omega)).symm)
      · (conv => whnf); (repeat (first | (refine arith_i ⟨by omega, by omega⟩ ?_; conv => whnf) | (refine need_i (by first | omega | (simp only [List.length_append, List.length_cons, List.length_nil]; omega)) ?_; conv => whnf) | ((with_reducible refine branch_tt ?_); conv => whnf) | ((with_reducible refine branch_ff ?_); conv => whnf) | (with_reducible refine branch_not ?_) | ((with_reducible refine slc_e ?_); conv => whnf) | ((with_reducible refine callS_a ?_); conv => whnf) | ((with_reducible refine bld_a ?_); conv => whnf) | ((with_reducible refine own_e ?_); conv => whnf) | ((with_reducible refine mkmap_b ?_); conv => whnf)))
        refine branch_d (fun h3 => ?_) (fun h3 => ?_)
        · (conv => whnf); (repeat (first | (refine arith_i ⟨by omega, by omega⟩ ?_; conv => whnf) | (refine need_i (by first | omega | (simp only [List.length_append, List.length_cons, List.length_nil]; omega)) ?_; conv => whnf) | ((with_reducible refine branch_tt ?_); conv => whnf) | ((with_reducible refine branch_ff ?_); conv => whnf) | (with_reducible refine branch_not ?_) | ((with_reducible refine slc_e ?_); conv => whnf) | ((with_reducible refine callS_a ?_); conv => whnf) | ((with_reducible refine bld_a ?_); conv => whnf) | ((with_reducible refine own_e ?_); conv => whnf) | ((with_reducible refine mkmap_b ?_); conv => whnf)))
          exact ret_p rfl (bool_eq (stO_bad hx (by simp [tri9]; omega)).symm)
        · (conv => whnf); (repeat (first | (refine arith_i ⟨by omega, by omega⟩ ?_; conv => whnf) | (refine need_i (by first | omega | (simp only [List.length_append, List.length_cons, List.length_nil]; omega)) ?_; conv => whnf) | ((with_reducible refine branch_tt ?_); conv => whnf) | ((with_reducible refine branch_ff ?_); conv => whnf) | (with_reducible refine branch_not ?_) | ((with_reducible refine slc_e ?_); conv => whnf) | ((with_reducible refine callS_a ?_); conv => whnf) | ((with_reducible refine bld_a ?_); conv => whnf) | ((with_reducible refine own_e ?_); conv => whnf) | ((with_reducible refine mkmap_b ?_); conv => whnf)))
          refine ⟨k + 1, ⟨by omega, fun i y hi hy => ?_⟩, le_mk ⟨rfl, rfl, rfl, trivial⟩ trivial rfl, by omega⟩
          rcases Nat.lt_or_ge i k with h' | h'
          · exact hall i y h' hy
          · obtain rfl : i = k := by omega
            rw [hx] at hy; injection hy with hy; subst hy
            simp [tri9]; omega
    · (conv => whnf); (repeat (first | (refine arith_i ⟨by omega, by omega⟩ ?_; conv => whnf) | (refine need_i (by first | omega | (simp only [List.length_append, List.length_cons, List.length_nil]; omega)) ?_; conv => whnf) | ((with_reducible refine branch_tt ?_); conv => whnf) | ((with_reducible refine branch_ff ?_); conv => whnf) | (with_reducible refine branch_not ?_) | ((with_reducible refine slc_e ?_); conv => whnf) | ((with_reducible refine callS_a ?_); conv => whnf) | ((with_reducible refine bld_a ?_); conv => whnf) | ((with_reducible refine own_e ?_); conv => whnf) | ((with_reducible refine mkmap_b ?_); conv => whnf)))
      exact ret_p rfl (bool_eq (stO_good (by omega) (by omega) hall).symm)
def bndB (rows : Nat) (n : Nd) : Bool := decide (n.kind = 3) && (if n.row = -1 then decide (n.num = 0) && decide (n.den = 1) else decide (0 ≤ n.row) && decide (n.row < rows) && decide (-10000 ≤ n.num) && decide (n.num ≤ 10000) && decide (1 ≤ n.den) && decide (n.den ≤ 10000))
theorem oBound_ok (P : Prog) (n : Nd) : Good Try.prog TT false 111 [progV P, .agg (encN n)] (· = .bool (bndB P.rows.length n)) := by
  have L : (P.rows.map encRow).length = P.rows.length := List.length_map ..
  refine good_of mixed tabOk Try.func111 rfl rfl Try.ntmps111 Try.results111 rfl rfl ?_
  (conv => whnf); (repeat (first | (refine arith_i ⟨by omega, by omega⟩ ?_; conv => whnf) | (refine need_i (by first | omega | (simp only [List.length_append, List.length_cons, List.length_nil]; omega)) ?_; conv => whnf) | ((with_reducible refine branch_tt ?_); conv => whnf) | ((with_reducible refine branch_ff ?_); conv => whnf) | (with_reducible refine branch_not ?_) | ((with_reducible refine slc_e ?_); conv => whnf) | ((with_reducible refine callS_a ?_); conv => whnf) | ((with_reducible refine bld_a ?_); conv => whnf) | ((with_reducible refine own_e ?_); conv => whnf) | ((with_reducible refine mkmap_b ?_); conv => whnf)))
  refine branch_n (fun h => ?_) (fun h => ?_)
  · (conv => whnf); (repeat (first | (refine arith_i ⟨by omega, by omega⟩ ?_; conv => whnf) | (refine need_i (by first | omega | (simp only [List.length_append, List.length_cons, List.length_nil]; omega)) ?_; conv => whnf) | ((with_reducible refine branch_tt ?_); conv => whnf) | ((with_reducible refine branch_ff ?_); conv => whnf) | (with_reducible refine branch_not ?_) | ((with_reducible refine slc_e ?_); conv => whnf) | ((with_reducible refine callS_a ?_); conv => whnf) | ((with_reducible refine bld_a ?_); conv => whnf) | ((with_reducible refine own_e ?_); conv => whnf) | ((with_reducible refine mkmap_b ?_); conv => whnf)))
    exact ret_p rfl (bool_eq (by simp [bndB, h]))
  (conv => whnf); (repeat (first | (refine arith_i ⟨by omega, by omega⟩ ?_; conv => whnf) | (refine need_i (by first | omega | (simp only [List.length_append, List.length_cons, List.length_nil]; omega)) ?_; conv => whnf) | ((with_reducible refine branch_tt ?_); conv => whnf) | ((with_reducible refine branch_ff ?_); conv => whnf) | (with_reducible refine branch_not ?_) | ((with_reducible refine slc_e ?_); conv => whnf) | ((with_reducible refine callS_a ?_); conv => whnf) | ((with_reducible refine bld_a ?_); conv => whnf) | ((with_reducible refine own_e ?_); conv => whnf) | ((with_reducible refine mkmap_b ?_); conv => whnf)))
  refine branch_e (fun h1 => ?_) (fun h1 => ?_)
  · (conv => whnf); (repeat (first | (refine arith_i ⟨by omega, by omega⟩ ?_; conv => whnf) | (refine need_i (by first | omega | (simp only [List.length_append, List.length_cons, List.length_nil]; omega)) ?_; conv => whnf) | ((with_reducible refine branch_tt ?_); conv => whnf) | ((with_reducible refine branch_ff ?_); conv => whnf) | (with_reducible refine branch_not ?_) | ((with_reducible refine slc_e ?_); conv => whnf) | ((with_reducible refine callS_a ?_); conv => whnf) | ((with_reducible refine bld_a ?_); conv => whnf) | ((with_reducible refine own_e ?_); conv => whnf) | ((with_reducible refine mkmap_b ?_); conv => whnf)))
    refine branch_e (fun h2 => ?_) (fun h2 => ?_)
    · (conv => whnf); (repeat (first | (refine arith_i ⟨by omega, by omega⟩ ?_; conv => whnf) | (refine need_i (by first | omega | (simp only [List.length_append, List.length_cons, List.length_nil]; omega)) ?_; conv => whnf) | ((with_reducible refine branch_tt ?_); conv => whnf) | ((with_reducible refine branch_ff ?_); conv => whnf) | (with_reducible refine branch_not ?_) | ((with_reducible refine slc_e ?_); conv => whnf) | ((with_reducible refine callS_a ?_); conv => whnf) | ((with_reducible refine bld_a ?_); conv => whnf) | ((with_reducible refine own_e ?_); conv => whnf) | ((with_reducible refine mkmap_b ?_); conv => whnf)))
      exact ret_p rfl (bool_eq (by simp only [bndB, h, h1, h2, if_pos, decide_true, Bool.true_and]; rw [Bool.eq_iff_iff]; simp))
    · (conv => whnf); (repeat (first | (refine arith_i ⟨by omega, by omega⟩ ?_; conv => whnf) | (refine need_i (by first | omega | (simp only [List.length_append, List.length_cons, List.length_nil]; omega)) ?_; conv => whnf) | ((with_reducible refine branch_tt ?_); conv => whnf) | ((with_reducible refine branch_ff ?_); conv => whnf) | (with_reducible refine branch_not ?_) | ((with_reducible refine slc_e ?_); conv => whnf) | ((with_reducible refine callS_a ?_); conv => whnf) | ((with_reducible refine bld_a ?_); conv => whnf) | ((with_reducible refine own_e ?_); conv => whnf) | ((with_reducible refine mkmap_b ?_); conv => whnf)))
      exact ret_p rfl (bool_eq (by simp [bndB, h, h1, h2]))
  · have no : (decide (0 ≤ n.row) && decide (n.row < P.rows.length) && decide (-10000 ≤ n.num) && decide (n.num ≤ 10000) && decide (1 ≤ n.den) && decide (n.den ≤ 10000)) = false → AV.bool false = .bool (bndB P.rows.length n) := fun hb => bool_eq (by rw [bndB, if_neg h1, hb, Bool.and_false])
    (conv => whnf); (repeat (first | (refine arith_i ⟨by omega, by omega⟩ ?_; conv => whnf) | (refine need_i (by first | omega | (simp only [List.length_append, List.length_cons, List.length_nil]; omega)) ?_; conv => whnf) | ((with_reducible refine branch_tt ?_); conv => whnf) | ((with_reducible refine branch_ff ?_); conv => whnf) | (with_reducible refine branch_not ?_) | ((with_reducible refine slc_e ?_); conv => whnf) | ((with_reducible refine callS_a ?_); conv => whnf) | ((with_reducible refine bld_a ?_); conv => whnf) | ((with_reducible refine own_e ?_); conv => whnf) | ((with_reducible refine mkmap_b ?_); conv => whnf)))
    refine branch_d (fun c1 => ?_) (fun c1 => ?_)
    · (conv => whnf); (repeat (first | (refine arith_i ⟨by omega, by omega⟩ ?_; conv => whnf) | (refine need_i (by first | omega | (simp only [List.length_append, List.length_cons, List.length_nil]; omega)) ?_; conv => whnf) | ((with_reducible refine branch_tt ?_); conv => whnf) | ((with_reducible refine branch_ff ?_); conv => whnf) | (with_reducible refine branch_not ?_) | ((with_reducible refine slc_e ?_); conv => whnf) | ((with_reducible refine callS_a ?_); conv => whnf) | ((with_reducible refine bld_a ?_); conv => whnf) | ((with_reducible refine own_e ?_); conv => whnf) | ((with_reducible refine mkmap_b ?_); conv => whnf)))
      refine branch_d (fun c2 => ?_) (fun c2 => ?_)
      · (conv => whnf); (repeat (first | (refine arith_i ⟨by omega, by omega⟩ ?_; conv => whnf) | (refine need_i (by first | omega | (simp only [List.length_append, List.length_cons, List.length_nil]; omega)) ?_; conv => whnf) | ((with_reducible refine branch_tt ?_); conv => whnf) | ((with_reducible refine branch_ff ?_); conv => whnf) | (with_reducible refine branch_not ?_) | ((with_reducible refine slc_e ?_); conv => whnf) | ((with_reducible refine callS_a ?_); conv => whnf) | ((with_reducible refine bld_a ?_); conv => whnf) | ((with_reducible refine own_e ?_); conv => whnf) | ((with_reducible refine mkmap_b ?_); conv => whnf)))
        refine branch_d (fun c3 => ?_) (fun c3 => ?_)
        · (conv => whnf); (repeat (first | (refine arith_i ⟨by omega, by omega⟩ ?_; conv => whnf) | (refine need_i (by first | omega | (simp only [List.length_append, List.length_cons, List.length_nil]; omega)) ?_; conv => whnf) | ((with_reducible refine branch_tt ?_); conv => whnf) | ((with_reducible refine branch_ff ?_); conv => whnf) | (with_reducible refine branch_not ?_) | ((with_reducible refine slc_e ?_); conv => whnf) | ((with_reducible refine callS_a ?_); conv => whnf) | ((with_reducible refine bld_a ?_); conv => whnf) | ((with_reducible refine own_e ?_); conv => whnf) | ((with_reducible refine mkmap_b ?_); conv => whnf)))
          refine branch_d (fun c4 => ?_) (fun c4 => ?_)
          · (conv => whnf); (repeat (first | (refine arith_i ⟨by omega, by omega⟩ ?_; conv => whnf) | (refine need_i (by first | omega | (simp only [List.length_append, List.length_cons, List.length_nil]; omega)) ?_; conv => whnf) | ((with_reducible refine branch_tt ?_); conv => whnf) | ((with_reducible refine branch_ff ?_); conv => whnf) | (with_reducible refine branch_not ?_) | ((with_reducible refine slc_e ?_); conv => whnf) | ((with_reducible refine callS_a ?_); conv => whnf) | ((with_reducible refine bld_a ?_); conv => whnf) | ((with_reducible refine own_e ?_); conv => whnf) | ((with_reducible refine mkmap_b ?_); conv => whnf)))
            refine branch_d (fun c5 => ?_) (fun c5 => ?_)
            · (conv => whnf); (repeat (first | (refine arith_i ⟨by omega, by omega⟩ ?_; conv => whnf) | (refine need_i (by first | omega | (simp only [List.length_append, List.length_cons, List.length_nil]; omega)) ?_; conv => whnf) | ((with_reducible refine branch_tt ?_); conv => whnf) | ((with_reducible refine branch_ff ?_); conv => whnf) | (with_reducible refine branch_not ?_) | ((with_reducible refine slc_e ?_); conv => whnf) | ((with_reducible refine callS_a ?_); conv => whnf) | ((with_reducible refine bld_a ?_); conv => whnf) | ((with_reducible refine own_e ?_); conv => whnf) | ((with_reducible refine mkmap_b ?_); conv => whnf)))
              have c2' : n.row < P.rows.length := by omega
              exact ret_p rfl (bool_eq (by simp [bndB, h, h1, c1, c2', c3, c4, c5]))
            · (conv => whnf); (repeat (first | (refine arith_i ⟨by omega, by omega⟩ ?_; conv => whnf) | (refine need_i (by first | omega | (simp only [List.length_append, List.length_cons, List.length_nil]; omega)) ?_; conv => whnf) | ((with_reducible refine branch_tt ?_); conv => whnf) | ((with_reducible refine branch_ff ?_); conv => whnf) | (with_reducible refine branch_not ?_) | ((with_reducible refine slc_e ?_); conv => whnf) | ((with_reducible refine callS_a ?_); conv => whnf) | ((with_reducible refine bld_a ?_); conv => whnf) | ((with_reducible refine own_e ?_); conv => whnf) | ((with_reducible refine mkmap_b ?_); conv => whnf)))
              exact ret_p rfl (no (by simp; omega))
          · (conv => whnf); (repeat (first | (refine arith_i ⟨by omega, by omega⟩ ?_; conv => whnf) | (refine need_i (by first | omega | (simp only [List.length_append, List.length_cons, List.length_nil]; omega)) ?_; conv => whnf) | ((with_reducible refine branch_tt ?_); conv => whnf) | ((with_reducible refine branch_ff ?_); conv => whnf) | (with_reducible refine branch_not ?_) | ((with_reducible refine slc_e ?_); conv => whnf) | ((with_reducible refine callS_a ?_); conv => whnf) | ((with_reducible refine bld_a ?_); conv => whnf) | ((with_reducible refine own_e ?_); conv => whnf) | ((with_reducible refine mkmap_b ?_); conv => whnf)))
            exact ret_p rfl (no (by simp; omega))
        · (conv => whnf); (repeat (first | (refine arith_i ⟨by omega, by omega⟩ ?_; conv => whnf) | (refine need_i (by first | omega | (simp only [List.length_append, List.length_cons, List.length_nil]; omega)) ?_; conv => whnf) | ((with_reducible refine branch_tt ?_); conv => whnf) | ((with_reducible refine branch_ff ?_); conv => whnf) | (with_reducible refine branch_not ?_) | ((with_reducible refine slc_e ?_); conv => whnf) | ((with_reducible refine callS_a ?_); conv => whnf) | ((with_reducible refine bld_a ?_); conv => whnf) | ((with_reducible refine own_e ?_); conv => whnf) | ((with_reducible refine mkmap_b ?_); conv => whnf)))
          exact ret_p rfl (no (by simp; omega))
      · (conv => whnf); (repeat (first | (refine arith_i ⟨by omega, by omega⟩ ?_; conv => whnf) | (refine need_i (by first | omega | (simp only [List.length_append, List.length_cons, List.length_nil]; omega)) ?_; conv => whnf) | ((with_reducible refine branch_tt ?_); conv => whnf) | ((with_reducible refine branch_ff ?_); conv => whnf) | (with_reducible refine branch_not ?_) | ((with_reducible refine slc_e ?_); conv => whnf) | ((with_reducible refine callS_a ?_); conv => whnf) | ((with_reducible refine bld_a ?_); conv => whnf) | ((with_reducible refine own_e ?_); conv => whnf) | ((with_reducible refine mkmap_b ?_); conv => whnf)))
        exact ret_p rfl (no (by simp; omega))
    · (conv => whnf); (repeat (first | (refine arith_i ⟨by omega, by omega⟩ ?_; conv => whnf) | (refine need_i (by first | omega | (simp only [List.length_append, List.length_cons, List.length_nil]; omega)) ?_; conv => whnf) | ((with_reducible refine branch_tt ?_); conv => whnf) | ((with_reducible refine branch_ff ?_); conv => whnf) | (with_reducible refine branch_not ?_) | ((with_reducible refine slc_e ?_); conv => whnf) | ((with_reducible refine callS_a ?_); conv => whnf) | ((with_reducible refine bld_a ?_); conv => whnf) | ((with_reducible refine own_e ?_); conv => whnf) | ((with_reducible refine mkmap_b ?_); conv => whnf)))
      exact ret_p rfl (no (by simp; omega))
def ceilF (a b : Int) : Int := if 0 < a.tmod b then a.tdiv b + 1 else a.tdiv b
theorem ceil_ok (a b : Int) (ha : -1000000000000 ≤ a ∧ a ≤ 1000000000000) (hb : 1 ≤ b ∧ b ≤ 10000) (hq : -1000000000000 ≤ a.tdiv b ∧ a.tdiv b ≤ 1000000000000) : Good Try.prog TT false 114 [.int .i64 a, .int .i64 b] (· = .int .i64 (ceilF a b)) := by
  refine good_of mixed tabOk Try.func114 rfl rfl Try.ntmps114 Try.results114 rfl rfl ?_
  (conv => whnf); (repeat (first | (refine arith_i ⟨by omega, by omega⟩ ?_; conv => whnf) | (refine need_i (by first | omega | (simp only [List.length_append, List.length_cons, List.length_nil]; omega)) ?_; conv => whnf) | ((with_reducible refine branch_tt ?_); conv => whnf) | ((with_reducible refine branch_ff ?_); conv => whnf) | (with_reducible refine branch_not ?_) | ((with_reducible refine slc_e ?_); conv => whnf) | ((with_reducible refine callS_a ?_); conv => whnf) | ((with_reducible refine bld_a ?_); conv => whnf) | ((with_reducible refine own_e ?_); conv => whnf) | ((with_reducible refine mkmap_b ?_); conv => whnf)))
  refine branch_d (fun h => ?_) (fun h => ?_)
  · (conv => whnf); (repeat (first | (refine arith_i ⟨by omega, by omega⟩ ?_; conv => whnf) | (refine need_i (by first | omega | (simp only [List.length_append, List.length_cons, List.length_nil]; omega)) ?_; conv => whnf) | ((with_reducible refine branch_tt ?_); conv => whnf) | ((with_reducible refine branch_ff ?_); conv => whnf) | (with_reducible refine branch_not ?_) | ((with_reducible refine slc_e ?_); conv => whnf) | ((with_reducible refine callS_a ?_); conv => whnf) | ((with_reducible refine bld_a ?_); conv => whnf) | ((with_reducible refine own_e ?_); conv => whnf) | ((with_reducible refine mkmap_b ?_); conv => whnf)))
    exact ret_p rfl (int_eq (by rw [ceilF, if_pos h]))
  · (conv => whnf); (repeat (first | (refine arith_i ⟨by omega, by omega⟩ ?_; conv => whnf) | (refine need_i (by first | omega | (simp only [List.length_append, List.length_cons, List.length_nil]; omega)) ?_; conv => whnf) | ((with_reducible refine branch_tt ?_); conv => whnf) | ((with_reducible refine branch_ff ?_); conv => whnf) | (with_reducible refine branch_not ?_) | ((with_reducible refine slc_e ?_); conv => whnf) | ((with_reducible refine callS_a ?_); conv => whnf) | ((with_reducible refine bld_a ?_); conv => whnf) | ((with_reducible refine own_e ?_); conv => whnf) | ((with_reducible refine mkmap_b ?_); conv => whnf)))
    exact ret_p rfl (int_eq (by rw [ceilF, if_neg h]))
end Go.Proofs.Ytengafkfgcdpeaa
end

/- Layer 8, the reference by the interpreter: Valid, State, Choice, Sum, Meets, Cost, Span, Blocked, Dead. -/
section
namespace Go.Proofs.Ytengafkfgcdpeaa
set_option linter.unusedVariables false
set_option linter.unusedSimpArgs false
set_option linter.unnecessarySimpa false
set_option linter.unusedSectionVars false
set_option maxRecDepth 10000
open Go.RowKit
theorem validB_row' {P : Prog} {k : Nat} {y : Row} (h : P.rows[k]? = some y) (hb : rowB P.costs.length y = false) : validB P = false := by
  have : P.rows.all (rowB P.costs.length) = false := by
    rw [List.all_eq_false]
    exact ⟨y, List.mem_of_getElem? h, by simp [hb]⟩
  simp [validB, this]
theorem inside_ok (x m : Int) : Good Try.prog TT false 71 [.int .i64 x, .int .i64 m] (· = .bool (insideB x m)) := by
  refine good_of mixed tabOk Try.func71 rfl rfl Try.ntmps71 Try.results71 rfl rfl ?_
  (conv => whnf); (repeat' (first | (refine arith_i ⟨by omega, by omega⟩ ?_; conv => whnf) | (refine arith_u ⟨by omega, by omega⟩ ?_; conv => whnf) | (refine arith_8 ⟨by omega, by omega⟩ ?_; conv => whnf) | (refine need_i (by first | omega | (simp only [List.length_cons, List.length_nil]; omega) | (simp only [List.length_append, List.length_cons, List.length_nil, List.length_map, List.length_replicate, List.length_modify]; omega)) ?_; conv => whnf) | ((with_reducible refine branch_tt ?_); conv => whnf) | ((with_reducible refine branch_ff ?_); conv => whnf) | (with_reducible refine branch_not ?_) | ((with_reducible refine slc_e ?_); conv => whnf) | ((with_reducible refine callS_a ?_); conv => whnf) | ((with_reducible refine bld_a ?_); conv => whnf) | ((with_reducible refine own_e ?_); conv => whnf) | ((with_reducible refine mkmap_b ?_); conv => whnf) | ((with_reducible refine branch_d (fun hq => ?_) (fun hq => ?_)) <;> (try (exfalso; omega)) <;> (conv => whnf)) | ((with_reducible refine branch_e (fun hq => ?_) (fun hq => ?_)) <;> (try (exfalso; omega)) <;> (conv => whnf)) | ((with_reducible refine branch_n (fun hq => ?_) (fun hq => ?_)) <;> (try (exfalso; omega)) <;> (conv => whnf)) | ((with_reducible refine branch_i (fun hq => ?_) (fun hq => ?_)) <;> (try (exfalso; omega)) <;> (conv => whnf))))
  all_goals exact ret_p rfl (bool_eq (by simp [insideB]; try omega))
theorem coef_ok (x : Int) : Good Try.prog TT false 73 [.int .i64 x] (· = .bool (coefB x)) := by
  refine good_of mixed tabOk Try.func73 rfl rfl Try.ntmps73 Try.results73 rfl rfl ?_
  (conv => whnf); (repeat' (first | (refine arith_i ⟨by omega, by omega⟩ ?_; conv => whnf) | (refine arith_u ⟨by omega, by omega⟩ ?_; conv => whnf) | (refine arith_8 ⟨by omega, by omega⟩ ?_; conv => whnf) | (refine need_i (by first | omega | (simp only [List.length_cons, List.length_nil]; omega) | (simp only [List.length_append, List.length_cons, List.length_nil, List.length_map, List.length_replicate, List.length_modify]; omega)) ?_; conv => whnf) | ((with_reducible refine branch_tt ?_); conv => whnf) | ((with_reducible refine branch_ff ?_); conv => whnf) | (with_reducible refine branch_not ?_) | ((with_reducible refine slc_e ?_); conv => whnf) | ((with_reducible refine callS_a ?_); conv => whnf) | ((with_reducible refine bld_a ?_); conv => whnf) | ((with_reducible refine own_e ?_); conv => whnf) | ((with_reducible refine mkmap_b ?_); conv => whnf) | ((with_reducible refine branch_d (fun hq => ?_) (fun hq => ?_)) <;> (try (exfalso; omega)) <;> (conv => whnf)) | ((with_reducible refine branch_e (fun hq => ?_) (fun hq => ?_)) <;> (try (exfalso; omega)) <;> (conv => whnf)) | ((with_reducible refine branch_n (fun hq => ?_) (fun hq => ?_)) <;> (try (exfalso; omega)) <;> (conv => whnf)) | ((with_reducible refine branch_i (fun hq => ?_) (fun hq => ?_)) <;> (try (exfalso; omega)) <;> (conv => whnf))))
  all_goals exact ret_p rfl (bool_eq (by simp [coefB]; try omega))
theorem limit_ok (x : Int) : Good Try.prog TT false 72 [.int .i64 x] (· = .bool (boundB x)) := by
  refine good_of mixed tabOk Try.func72 rfl rfl Try.ntmps72 Try.results72 rfl rfl ?_
  (conv => whnf); (repeat' (first | (refine arith_i ⟨by omega, by omega⟩ ?_; conv => whnf) | (refine arith_u ⟨by omega, by omega⟩ ?_; conv => whnf) | (refine arith_8 ⟨by omega, by omega⟩ ?_; conv => whnf) | (refine need_i (by first | omega | (simp only [List.length_cons, List.length_nil]; omega) | (simp only [List.length_append, List.length_cons, List.length_nil, List.length_map, List.length_replicate, List.length_modify]; omega)) ?_; conv => whnf) | ((with_reducible refine branch_tt ?_); conv => whnf) | ((with_reducible refine branch_ff ?_); conv => whnf) | (with_reducible refine branch_not ?_) | ((with_reducible refine slc_e ?_); conv => whnf) | ((with_reducible refine callS_a ?_); conv => whnf) | ((with_reducible refine bld_a ?_); conv => whnf) | ((with_reducible refine own_e ?_); conv => whnf) | ((with_reducible refine mkmap_b ?_); conv => whnf) | ((with_reducible refine branch_d (fun hq => ?_) (fun hq => ?_)) <;> (try (exfalso; omega)) <;> (conv => whnf)) | ((with_reducible refine branch_e (fun hq => ?_) (fun hq => ?_)) <;> (try (exfalso; omega)) <;> (conv => whnf)) | ((with_reducible refine branch_n (fun hq => ?_) (fun hq => ?_)) <;> (try (exfalso; omega)) <;> (conv => whnf)) | ((with_reducible refine branch_i (fun hq => ?_) (fun hq => ?_)) <;> (try (exfalso; omega)) <;> (conv => whnf))))
  all_goals exact ret_p rfl (bool_eq (by simp [boundB]; try omega))
theorem rValid_ok (P : Prog) (hP : Fits P) : Good Try.prog TT false 47 [progV P] (· = .bool (validB P)) := by
  have L : (P.costs.map encI).length = P.costs.length := List.length_map ..
  have LR : (P.rows.map encRow).length = P.rows.length := List.length_map ..
  have hP1 := hP.1
  have hP2 := hP.2.1
  refine good_of mixed tabOk Try.func47 rfl rfl Try.ntmps47 Try.results47 rfl rfl ?_
  (conv => whnf); (repeat' (first | (refine arith_i ⟨by omega, by omega⟩ ?_; conv => whnf) | (refine arith_u ⟨by omega, by omega⟩ ?_; conv => whnf) | (refine arith_8 ⟨by omega, by omega⟩ ?_; conv => whnf) | (refine need_i (by first | omega | (simp only [List.length_cons, List.length_nil]; omega) | (simp only [List.length_append, List.length_cons, List.length_nil, List.length_map, List.length_replicate, List.length_modify]; omega)) ?_; conv => whnf) | ((with_reducible refine branch_tt ?_); conv => whnf) | ((with_reducible refine branch_ff ?_); conv => whnf) | (with_reducible refine branch_not ?_) | ((with_reducible refine slc_e ?_); conv => whnf) | ((with_reducible refine callS_a ?_); conv => whnf) | ((with_reducible refine bld_a ?_); conv => whnf) | ((with_reducible refine own_e ?_); conv => whnf) | ((with_reducible refine mkmap_b ?_); conv => whnf) | ((with_reducible refine branch_d (fun hq => ?_) (fun hq => ?_)) <;> (try (exfalso; omega)) <;> (conv => whnf)) | ((with_reducible refine branch_e (fun hq => ?_) (fun hq => ?_)) <;> (try (exfalso; omega)) <;> (conv => whnf)) | ((with_reducible refine branch_n (fun hq => ?_) (fun hq => ?_)) <;> (try (exfalso; omega)) <;> (conv => whnf)) | ((with_reducible refine branch_i (fun hq => ?_) (fun hq => ?_)) <;> (try (exfalso; omega)) <;> (conv => whnf))))
  · exact ret_p rfl (bool_eq (validB_big (.inl (by omega))).symm)
  · exact ret_p rfl (bool_eq (validB_big (.inr (by omega))).symm)
  refine loop_i (fun k : Nat => k ≤ P.costs.length ∧ P.costs.all costB = (P.costs.drop k).all costB) (fun k => mkSt [(1, .ptr 1 0), (3, .int .i64 k)] [(1, [ints P.costs, rowsV P.rows])] false) (fun k => P.costs.length - k) 0 ⟨Nat.zero_le _, rfl⟩ (le_mk (by repeat' (first | exact trivial | rfl | apply And.intro)) (by repeat' (first | exact trivial | rfl | apply And.intro)) rfl) ?_
  rintro k ⟨hk, hall⟩
  (conv => whnf); (repeat' (first | (refine arith_i ⟨by omega, by omega⟩ ?_; conv => whnf) | (refine arith_u ⟨by omega, by omega⟩ ?_; conv => whnf) | (refine arith_8 ⟨by omega, by omega⟩ ?_; conv => whnf) | (refine need_i (by first | omega | (simp only [List.length_cons, List.length_nil]; omega) | (simp only [List.length_append, List.length_cons, List.length_nil, List.length_map, List.length_replicate, List.length_modify]; omega)) ?_; conv => whnf) | ((with_reducible refine branch_tt ?_); conv => whnf) | ((with_reducible refine branch_ff ?_); conv => whnf) | (with_reducible refine branch_not ?_) | ((first | refine idx_cs (by assumption) ?_ | refine idx_ms (by omega) (by assumption) ?_ | refine idx_c (by omega) fun y hy => ?_ | refine idx_m (by omega) (by omega) fun y hy => ?_); conv => whnf) | ((refine call_e (inside_ok _ _) ?_); conv => whnf) | ((with_reducible refine slc_e ?_); conv => whnf) | ((with_reducible refine callS_a ?_); conv => whnf) | ((with_reducible refine bld_a ?_); conv => whnf) | ((with_reducible refine own_e ?_); conv => whnf) | ((with_reducible refine mkmap_b ?_); conv => whnf) | ((with_reducible refine branch_d (fun hq => ?_) (fun hq => ?_)) <;> (try (exfalso; omega)) <;> (conv => whnf)) | ((with_reducible refine branch_e (fun hq => ?_) (fun hq => ?_)) <;> (try (exfalso; omega)) <;> (conv => whnf)) | ((with_reducible refine branch_n (fun hq => ?_) (fun hq => ?_)) <;> (try (exfalso; omega)) <;> (conv => whnf)) | ((with_reducible refine branch_i (fun hq => ?_) (fun hq => ?_)) <;> (try (exfalso; omega)) <;> (conv => whnf))))
  · rw [drop_at hy] at hall
    exact ⟨k + 1, ⟨by omega, by rw [hall, List.all_cons, ← insideB_cost, hq, Bool.true_and]⟩, (le_mk (by repeat' (first | exact trivial | rfl | apply And.intro)) (by repeat' (first | exact trivial | rfl | apply And.intro)) rfl), by omega⟩
  · rw [drop_at hy] at hall
    exact ret_p rfl (bool_eq (validB_cost (by rw [hall, List.all_cons, ← insideB_cost, hq, Bool.false_and])).symm)
  · have hcost : P.costs.all costB = true := by rw [hall, drop_end (by omega)]; rfl
    clear hall
    refine loop_i (fun k : Nat => k ≤ P.rows.length ∧ P.rows.all (rowB P.costs.length) = (P.rows.drop k).all (rowB P.costs.length)) (fun k => mkSt [(1, .ptr 1 0), (4, .int .i64 k)] [(1, [ints P.costs, rowsV P.rows])] false) (fun k => P.rows.length - k) 0 ⟨Nat.zero_le _, rfl⟩ (le_mk (by repeat' (first | exact trivial | rfl | apply And.intro)) (by repeat' (first | exact trivial | rfl | apply And.intro)) rfl) ?_
    rintro k ⟨hk, hall⟩
    (conv => whnf); (repeat' (first | (refine arith_i ⟨by omega, by omega⟩ ?_; conv => whnf) | (refine arith_u ⟨by omega, by omega⟩ ?_; conv => whnf) | (refine arith_8 ⟨by omega, by omega⟩ ?_; conv => whnf) | (refine need_i (by first | omega | (simp only [List.length_cons, List.length_nil]; omega) | (simp only [List.length_append, List.length_cons, List.length_nil, List.length_map, List.length_replicate, List.length_modify]; omega)) ?_; conv => whnf) | ((with_reducible refine branch_tt ?_); conv => whnf) | ((with_reducible refine branch_ff ?_); conv => whnf) | (with_reducible refine branch_not ?_) | ((refine idx_c (by omega) fun y hy => ?_; have LC : (y.coefs.map encI).length = y.coefs.length := List.length_map ..); conv => whnf) | ((refine call_e (limit_ok _) ?_); conv => whnf) | ((with_reducible refine slc_e ?_); conv => whnf) | ((with_reducible refine callS_a ?_); conv => whnf) | ((with_reducible refine bld_a ?_); conv => whnf) | ((with_reducible refine own_e ?_); conv => whnf) | ((with_reducible refine mkmap_b ?_); conv => whnf) | ((with_reducible refine branch_d (fun hq => ?_) (fun hq => ?_)) <;> (try (exfalso; omega)) <;> (conv => whnf)) | ((with_reducible refine branch_e (fun hq => ?_) (fun hq => ?_)) <;> (try (exfalso; omega)) <;> (conv => whnf)) | ((with_reducible refine branch_n (fun hq => ?_) (fun hq => ?_)) <;> (try (exfalso; omega)) <;> (conv => whnf)) | ((with_reducible refine branch_i (fun hq => ?_) (fun hq => ?_)) <;> (try (exfalso; omega)) <;> (conv => whnf))))
    · exact ret_p rfl (bool_eq (validB_row' hy (by have : y.coefs.length ≠ P.costs.length := by omega
                                                   simp [rowB, this])).symm)
    · rename_i hb1 hb2
      refine loop_i (fun j : Nat => j ≤ y.coefs.length ∧ y.coefs.all coefB = (y.coefs.drop j).all coefB) (fun j => mkSt [(1, .ptr 1 0), (4, .int .i64 k), (5, .ptr 5 0), (6, .int .i64 j)] [(1, [ints P.costs, rowsV P.rows]), (5, encRow y)] false) (fun j => y.coefs.length - j) 0 ⟨Nat.zero_le _, rfl⟩ (le_mk (by repeat' (first | exact trivial | rfl | apply And.intro)) (by repeat' (first | exact trivial | rfl | apply And.intro)) rfl) ?_
      rintro j ⟨hj, hallj⟩
      have hP3 := hP.2.2 y (List.mem_of_getElem? hy)
      (conv => whnf); (repeat' (first | (refine arith_i ⟨by omega, by omega⟩ ?_; conv => whnf) | (refine arith_u ⟨by omega, by omega⟩ ?_; conv => whnf) | (refine arith_8 ⟨by omega, by omega⟩ ?_; conv => whnf) | (refine need_i (by first | omega | (simp only [List.length_cons, List.length_nil]; omega) | (simp only [List.length_append, List.length_cons, List.length_nil, List.length_map, List.length_replicate, List.length_modify]; omega)) ?_; conv => whnf) | ((with_reducible refine branch_tt ?_); conv => whnf) | ((with_reducible refine branch_ff ?_); conv => whnf) | (with_reducible refine branch_not ?_) | ((refine idx_c (by omega) fun z hz => ?_); conv => whnf) | ((refine call_e (coef_ok _) ?_); conv => whnf) | ((with_reducible refine slc_e ?_); conv => whnf) | ((with_reducible refine callS_a ?_); conv => whnf) | ((with_reducible refine bld_a ?_); conv => whnf) | ((with_reducible refine own_e ?_); conv => whnf) | ((with_reducible refine mkmap_b ?_); conv => whnf) | ((with_reducible refine branch_d (fun hq => ?_) (fun hq => ?_)) <;> (try (exfalso; omega)) <;> (conv => whnf)) | ((with_reducible refine branch_e (fun hq => ?_) (fun hq => ?_)) <;> (try (exfalso; omega)) <;> (conv => whnf)) | ((with_reducible refine branch_n (fun hq => ?_) (fun hq => ?_)) <;> (try (exfalso; omega)) <;> (conv => whnf)) | ((with_reducible refine branch_i (fun hq => ?_) (fun hq => ?_)) <;> (try (exfalso; omega)) <;> (conv => whnf))))
      · rw [drop_at hz] at hallj
        exact ⟨j + 1, ⟨by omega, by rw [hallj, List.all_cons, hq, Bool.true_and]⟩, (le_mk (by repeat' (first | exact trivial | rfl | apply And.intro)) (by repeat' (first | exact trivial | rfl | apply And.intro)) rfl), by omega⟩
      · rw [drop_at hz] at hallj
        exact ret_p rfl (bool_eq (validB_row' hy (by simp [rowB, validCoefsB, hallj, hq])).symm)
      · rw [drop_end (by omega)] at hallj
        rw [drop_at hy] at hall
        refine ⟨k + 1, ⟨by omega, ?_⟩, (le_mk (by repeat' (first | exact trivial | rfl | apply And.intro)) (by repeat' (first | exact trivial | rfl | apply And.intro)) rfl), by omega⟩
        have : y.coefs.length = P.costs.length := by omega
        rw [hall, List.all_cons]
        simp [rowB, validCoefsB, *]
    · exact ret_p rfl (bool_eq (validB_row' hy (by simp [rowB, *])).symm)
    · exact ret_p rfl (bool_eq (validB_row' hy (by simp [rowB, *])).symm)
    · exact ret_p rfl (bool_eq (by have e1 : P.costs.length ≤ 12 := by omega
                                   have e2 : P.rows.length ≤ 60 := by omega
                                   simp [validB, e1, e2, hcost, hall, drop_end (show P.rows.length ≤ k by omega)]))
theorem costs_in {P : Prog} (h : validB P = true) : ∀ i, i < P.costs.length → -10000 ≤ nth P.costs i ∧ nth P.costs i ≤ 10000 := fun i hi => by
  have := costB_iff.1 (AllTo.of_all (validB_parts h).2.2.1 i hi)
  omega
end Go.Proofs.Ytengafkfgcdpeaa
end

/- Layer 9 by the interpreter: a state with one more option decided. -/
section
namespace Go.Proofs.Ytengafkfgcdpeaa
set_option linter.unusedVariables false
set_option linter.unusedSimpArgs false
set_option linter.unnecessarySimpa false
set_option linter.unusedSectionVars false
set_option maxRecDepth 10000
open Go.RowKit

theorem clone_ok (xs : List Int) (hl : xs.length ≤ 1000000) : Good Try.prog TT false 44 [ints xs] (· = .own 0 3 1 (xs.map encI)) := by
  have L : (xs.map encI).length = xs.length := List.length_map ..
  refine good_of mixed tabOk Try.func44 rfl rfl Try.ntmps44 Try.results44 rfl rfl ?_
  (conv => whnf); (repeat (first | (refine arith_i ⟨by omega, by omega⟩ ?_; conv => whnf) | (refine need_i (by first | omega | (simp only [List.length_append, List.length_cons, List.length_nil]; omega)) ?_; conv => whnf) | ((with_reducible refine branch_tt ?_); conv => whnf) | ((with_reducible refine branch_ff ?_); conv => whnf) | (with_reducible refine branch_not ?_) | ((with_reducible refine slc_e ?_); conv => whnf) | ((with_reducible refine callS_a ?_); conv => whnf) | ((with_reducible refine bld_a ?_); conv => whnf) | ((with_reducible refine own_e ?_); conv => whnf) | ((with_reducible refine mkmap_b ?_); conv => whnf)))
  refine nil_i (fun h => ?_) ?_
  · (conv => whnf); (repeat (first | (refine arith_i ⟨by omega, by omega⟩ ?_; conv => whnf) | (refine need_i (by first | omega | (simp only [List.length_append, List.length_cons, List.length_nil]; omega)) ?_; conv => whnf) | ((with_reducible refine branch_tt ?_); conv => whnf) | ((with_reducible refine branch_ff ?_); conv => whnf) | (with_reducible refine branch_not ?_) | ((with_reducible refine slc_e ?_); conv => whnf) | ((with_reducible refine callS_a ?_); conv => whnf) | ((with_reducible refine bld_a ?_); conv => whnf) | ((with_reducible refine own_e ?_); conv => whnf) | ((with_reducible refine mkmap_b ?_); conv => whnf)))
    exact ret_n (e := 3) (z := 1) (by rw [h])
  · (conv => whnf); (repeat (first | (refine arith_i ⟨by omega, by omega⟩ ?_; conv => whnf) | (refine need_i (by first | omega | (simp only [List.length_append, List.length_cons, List.length_nil]; omega)) ?_; conv => whnf) | ((with_reducible refine branch_tt ?_); conv => whnf) | ((with_reducible refine branch_ff ?_); conv => whnf) | (with_reducible refine branch_not ?_) | ((with_reducible refine slc_e ?_); conv => whnf) | ((with_reducible refine callS_a ?_); conv => whnf) | ((with_reducible refine bld_a ?_); conv => whnf) | ((with_reducible refine own_e ?_); conv => whnf) | ((with_reducible refine mkmap_b ?_); conv => whnf)))
    exact ret_o rfl
theorem encI_set {y : Int} : ∀ {xs : List Int} {k : Nat}, (xs.map encI).modify k (·.set 0 (.int .i64 y)) = (xs.set k y).map encI
  | [], _ => by simp
  | x :: xs, 0 => by simp [encI, List.modify_zero_cons]
  | x :: xs, k + 1 => by simp only [List.map_cons, List.modify_succ_cons, List.set_cons_succ, encI_set]
end Go.Proofs.Ytengafkfgcdpeaa
end

/- Layer 5, plain: topics in a tree, marks that are rolled up. No program in sight. -/
section
namespace Go.Proofs.Ytengafkfgcdpeaa
set_option linter.unusedVariables false
set_option linter.unusedSimpArgs false
set_option linter.unnecessarySimpa false
set_option linter.unusedSectionVars false

def sumN (f : Nat → Int) : Nat → Int
  | 0 => 0
  | n + 1 => sumN f n + f n
section
variable {p : Nat → Int} (hp : ∀ k, -1 ≤ p k ∧ p k < k)
include hp in
include hp in
include hp in
include hp in
include hp in
include hp in
include hp in
include hp in
include hp in
include hp in
include hp in
include hp in
end
end Go.Proofs.Ytengafkfgcdpeaa
end

/- Layer 9 by the interpreter: the bound of a node. -/
section
namespace Go.Proofs.Ytengafkfgcdpeaa
set_option linter.unusedVariables false
set_option linter.unusedSimpArgs false
set_option linter.unnecessarySimpa false
set_option linter.unusedSectionVars false
set_option maxRecDepth 10000
open Go.RowKit
theorem mul_in {a b : Int} {A B : Nat} (ha : -(A : Int) ≤ a ∧ a ≤ A) (hb : -(B : Int) ≤ b ∧ b ≤ B) : -((A * B : Nat) : Int) ≤ a * b ∧ a * b ≤ ((A * B : Nat) : Int) := by
  have h1 : a.natAbs ≤ A := by omega
  have h2 : b.natAbs ≤ B := by omega
  have h3 := Nat.mul_le_mul h1 h2
  rw [← Int.natAbs_mul] at h3
  omega
def rowOf (P : Prog) (n : Nd) : Row := if n.row < 0 then ⟨List.replicate P.costs.length 0, 0, 0⟩ else rowAt P.rows n.row.toNat
def contr (s v : Int) : Int := if s = 1 then v else if s = -1 then min v 0 else 0
def nodeV (P : Prog) (n : Nd) (i : Nat) : Int := n.den * nth P.costs i - n.num * nth (rowOf P n).coefs i
def startF (P : Prog) (n : Nd) : Int := if n.num < 0 then n.num * (rowOf P n).most else n.num * (rowOf P n).least
def totF (P : Prog) (st : List Int) (n : Nd) (k : Nat) : Int := startF P n + sumN (fun i => contr (nth st i) (nodeV P n i)) k
def boundF (P : Prog) (st : List Int) (n : Nd) : Int := ceilF (totF P st n P.costs.length) n.den
/-- What is known of the row of a bound. -/
structure RowIn (c : Nat) (r : Row) : Prop where
  len : r.coefs.length = c
  co : ∀ i, -10000 ≤ nth r.coefs i ∧ nth r.coefs i ≤ 10000
  le : -1000000 ≤ r.least ∧ r.least ≤ 1000000
  mo : -1000000 ≤ r.most ∧ r.most ≤ 1000000
theorem nth_out {xs : List Int} {i : Nat} (h : xs.length ≤ i) : nth xs i = 0 := by simp [nth, List.getD_eq_getElem?_getD, List.getElem?_eq_none h]
theorem rowIn_of {P : Prog} (hv : validB P = true) {n : Nd} (hb : bndB P.rows.length n = true) : RowIn P.costs.length (rowOf P n) := by
  unfold rowOf
  split
  · refine ⟨by simp, fun i => ?_, by show -1000000 ≤ (0 : Int) ∧ (0 : Int) ≤ 1000000; omega, by show -1000000 ≤ (0 : Int) ∧ (0 : Int) ≤ 1000000; omega⟩
    have : nth (List.replicate P.costs.length 0) i = 0 := by
      simp only [nth, List.getD_eq_getElem?_getD, List.getElem?_replicate]
      split <;> rfl
    simp only [this]
    decide
  · next h0 =>
    have hr : n.row < P.rows.length := by
      simp only [bndB] at hb
      by_cases h1 : n.row = -1
      · omega
      · rw [if_neg h1] at hb
        simp at hb
        omega
    have hlt : n.row.toNat < P.rows.length := by omega
    have hm : rowAt P.rows n.row.toNat ∈ P.rows := by
      rw [rowAt_eq (List.getElem?_eq_getElem hlt)]
      exact List.getElem_mem hlt
    obtain ⟨a, b, c, d⟩ := valid_rows hv hm
    refine ⟨a, fun i => ?_, c, d⟩
    rcases Nat.lt_or_ge i (rowAt P.rows n.row.toNat).coefs.length with h | h
    · exact b i h
    · rw [nth_out h]; decide
theorem node_in {n : Nd} {c : Nat} (hb : bndB c n = true) : (-10000 ≤ n.num ∧ n.num ≤ 10000) ∧ 1 ≤ n.den ∧ n.den ≤ 10000 := by
  simp only [bndB] at hb
  by_cases h1 : n.row = -1
  · rw [if_pos h1] at hb
    simp at hb
    omega
  · rw [if_neg h1] at hb
    simp at hb
    omega
theorem cost_in {P : Prog} (hv : validB P = true) (i : Nat) : 0 ≤ nth P.costs i ∧ nth P.costs i ≤ 10000 := by
  rcases Nat.lt_or_ge i P.costs.length with h | h
  · have h1 := (validB_parts hv).2.2.1
    have h2 := List.all_eq_true.1 h1 _ (List.getElem_mem h)
    have h3 := costB_iff.1 h2
    rw [nth_eq (List.getElem?_eq_getElem h)]
    exact h3
  · rw [nth_out h]; decide
theorem nodeV_in {P : Prog} (hv : validB P = true) {n : Nd} (hb : bndB P.rows.length n = true) (i : Nat) : -200000000 ≤ nodeV P n i ∧ nodeV P n i ≤ 200000000 := by
  obtain ⟨h1, h2⟩ := node_in hb
  have h3 := (rowIn_of hv hb).co i
  have h4 := cost_in hv i
  have m1 := mul_in (a := n.den) (b := nth P.costs i) (A := 10000) (B := 10000) (by omega) (by omega)
  have m2 := mul_in (a := n.num) (b := nth (rowOf P n).coefs i) (A := 10000) (B := 10000) (by omega) (by omega)
  unfold nodeV
  omega
theorem start_in {P : Prog} (hv : validB P = true) {n : Nd} (hb : bndB P.rows.length n = true) : -10000000000 ≤ startF P n ∧ startF P n ≤ 10000000000 := by
  obtain ⟨h1, h2⟩ := node_in hb
  have hr := rowIn_of hv hb
  have h3 := hr.le
  have h4 := hr.mo
  have m1 := mul_in (a := n.num) (b := (rowOf P n).most) (A := 10000) (B := 1000000) (by omega) (by omega)
  have m2 := mul_in (a := n.num) (b := (rowOf P n).least) (A := 10000) (B := 1000000) (by omega) (by omega)
  unfold startF
  split <;> omega
theorem contr_in {s v : Int} (h : -200000000 ≤ v ∧ v ≤ 200000000) : -200000000 ≤ contr s v ∧ contr s v ≤ 200000000 := by
  unfold contr
  split
  · exact h
  · split
    · omega
    · omega
theorem tot_in {P : Prog} (hv : validB P = true) {n : Nd} (hb : bndB P.rows.length n = true) (st : List Int) : ∀ k : Nat, k ≤ 12 → -(10000000000 + 200000000 * (k : Int)) ≤ totF P st n k ∧ totF P st n k ≤ 10000000000 + 200000000 * (k : Int)
  | 0, _ => by
    have := start_in hv hb
    simp only [totF, sumN]
    omega
  | k + 1, hk => by
    have h1 := tot_in hv hb st k (by omega)
    have h2 := contr_in (s := nth st k) (nodeV_in hv hb k)
    simp only [totF, sumN] at h1 ⊢
    omega
theorem min_if {x : Int} : (if 0 < x then 0 else x) = min x 0 := by omega
theorem tdiv_in {a b : Int} (hb : 1 ≤ b) : (a.tdiv b).natAbs ≤ a.natAbs := by
  rw [Int.natAbs_tdiv]; exact Nat.div_le_self _ _
theorem tot_next {P : Prog} {st : List Int} {n : Nd} {k : Nat} : totF P st n (k + 1) = totF P st n k + contr (nth st k) (nodeV P n k) := by
  simp only [totF, sumN]; omega
theorem boundOf_ok (P : Prog) (st : List Int) (n : Nd) (hv : validB P = true) (hs : st.length = P.costs.length) (hb : bndB P.rows.length n = true) : Good Try.prog TT false 88 [progV P, ints st, .agg (encN n)] (· = .int .i64 (boundF P st n)) := by
  have L1 : (P.costs.map encI).length = P.costs.length := List.length_map ..
  have L2 : (P.rows.map encRow).length = P.rows.length := List.length_map ..
  have L3 : (st.map encI).length = st.length := List.length_map ..
  have h12 := (validB_parts hv).1
  have hr := rowIn_of hv hb
  obtain ⟨hn, hd⟩ := node_in hb
  refine good_of_c (fun i => Nat.beq i 4) mixed tabOk Try.func88 rfl rfl Try.ntmps88 Try.results88 rfl rfl ?_
  (conv => whnf); (repeat (first | (refine arith_i ⟨by omega, by omega⟩ ?_; conv => whnf) | (refine need_i (by first | omega | (simp only [List.length_append, List.length_cons, List.length_nil]; omega)) ?_; conv => whnf) | ((with_reducible refine branch_tt ?_); conv => whnf) | ((with_reducible refine branch_ff ?_); conv => whnf) | (with_reducible refine branch_not ?_) | ((with_reducible refine slc_e ?_); conv => whnf) | ((with_reducible refine callS_a ?_); conv => whnf) | ((with_reducible refine bld_a ?_); conv => whnf) | ((with_reducible refine own_e ?_); conv => whnf) | ((with_reducible refine mkmap_b ?_); conv => whnf)))
  refine branch_d (fun h0 => ?_) (fun h0 => ?_)
  · have hlt : n.row < P.rows.length := by
      simp only [bndB] at hb
      by_cases h1 : n.row = -1
      · omega
      · rw [if_neg h1] at hb
        simp at hb
        omega
    (conv => whnf); (repeat (first | (refine arith_i ⟨by omega, by omega⟩ ?_; conv => whnf) | (refine need_i (by first | omega | (simp only [List.length_append, List.length_cons, List.length_nil]; omega)) ?_; conv => whnf) | ((with_reducible refine branch_tt ?_); conv => whnf) | ((with_reducible refine branch_ff ?_); conv => whnf) | (with_reducible refine branch_not ?_) | ((with_reducible refine slc_e ?_); conv => whnf) | ((with_reducible refine callS_a ?_); conv => whnf) | ((with_reducible refine bld_a ?_); conv => whnf) | ((with_reducible refine own_e ?_); conv => whnf) | ((with_reducible refine mkmap_b ?_); conv => whnf)))
    refine idx_m (by omega) (by omega) fun r hrr => ?_
    have er : rowOf P n = r := by rw [rowOf, if_neg (by omega), rowAt_eq hrr]
    (conv => whnf); (repeat (first | (refine arith_i ⟨by omega, by omega⟩ ?_; conv => whnf) | (refine need_i (by first | omega | (simp only [List.length_append, List.length_cons, List.length_nil]; omega)) ?_; conv => whnf) | ((with_reducible refine branch_tt ?_); conv => whnf) | ((with_reducible refine branch_ff ?_); conv => whnf) | (with_reducible refine branch_not ?_) | ((with_reducible refine slc_e ?_); conv => whnf) | ((with_reducible refine callS_a ?_); conv => whnf) | ((with_reducible refine bld_a ?_); conv => whnf) | ((with_reducible refine own_e ?_); conv => whnf) | ((with_reducible refine mkmap_b ?_); conv => whnf)))
    refine rest_i (mkSt [(1, ints st), (3, .ptr 3 0), (5, .ptr 5 0), (7, .ptr 7 0)] [(3, [ints P.costs, rowsV P.rows]), (5, encN n), (7, encRow (rowOf P n))] false) (le_mk ⟨rfl, rfl, rfl, rfl, trivial⟩ ⟨rfl, rfl, by rw [er]; rfl, trivial⟩ rfl) ?_
    (conv => whnf); (repeat (first | (refine arith_i ⟨by omega, by omega⟩ ?_; conv => whnf) | (refine need_i (by first | omega | (simp only [List.length_append, List.length_cons, List.length_nil]; omega)) ?_; conv => whnf) | ((with_reducible refine branch_tt ?_); conv => whnf) | ((with_reducible refine branch_ff ?_); conv => whnf) | (with_reducible refine branch_not ?_) | ((with_reducible refine slc_e ?_); conv => whnf) | ((with_reducible refine callS_a ?_); conv => whnf) | ((with_reducible refine bld_a ?_); conv => whnf) | ((with_reducible refine own_e ?_); conv => whnf) | ((with_reducible refine mkmap_b ?_); conv => whnf)))
    have m1 := mul_in (a := n.num) (b := (rowOf P n).least) (A := 10000) (B := 1000000) (by omega) (by have := hr.le; omega)
    have m2 := mul_in (a := n.num) (b := (rowOf P n).most) (A := 10000) (B := 1000000) (by omega) (by have := hr.mo; omega)
    refine arith_i (by omega) ?_
    (conv => whnf); (repeat (first | (refine arith_i ⟨by omega, by omega⟩ ?_; conv => whnf) | (refine need_i (by first | omega | (simp only [List.length_append, List.length_cons, List.length_nil]; omega)) ?_; conv => whnf) | ((with_reducible refine branch_tt ?_); conv => whnf) | ((with_reducible refine branch_ff ?_); conv => whnf) | (with_reducible refine branch_not ?_) | ((with_reducible refine slc_e ?_); conv => whnf) | ((with_reducible refine callS_a ?_); conv => whnf) | ((with_reducible refine bld_a ?_); conv => whnf) | ((with_reducible refine own_e ?_); conv => whnf) | ((with_reducible refine mkmap_b ?_); conv => whnf)))
    have fin : ∀ t : Int, t = startF P n → True := fun _ _ => trivial
    refine branch_d (fun hneg => ?_) (fun hneg => ?_)
    · (conv => whnf); (repeat (first | (refine arith_i ⟨by omega, by omega⟩ ?_; conv => whnf) | (refine need_i (by first | omega | (simp only [List.length_append, List.length_cons, List.length_nil]; omega)) ?_; conv => whnf) | ((with_reducible refine branch_tt ?_); conv => whnf) | ((with_reducible refine branch_ff ?_); conv => whnf) | (with_reducible refine branch_not ?_) | ((with_reducible refine slc_e ?_); conv => whnf) | ((with_reducible refine callS_a ?_); conv => whnf) | ((with_reducible refine bld_a ?_); conv => whnf) | ((with_reducible refine own_e ?_); conv => whnf) | ((with_reducible refine mkmap_b ?_); conv => whnf)))
      refine loop_i (fun k : Nat => k ≤ P.costs.length) (fun k => mkSt [(1, ints st), (3, .ptr 3 0), (5, .ptr 5 0), (7, .ptr 7 0), (8, .int .i64 (totF P st n k)), (40, ints P.costs), (41, .int .i64 (P.costs.map encI).length), (42, .int .i64 k)] [(3, [ints P.costs, rowsV P.rows]), (5, encN n), (7, encRow (rowOf P n))] false) (fun k => P.costs.length - k) 0 (Nat.zero_le _) (le_mk ⟨rfl, rfl, rfl, rfl, int_eq (by simp [totF, sumN, startF, hneg]), rfl, rfl, rfl, trivial⟩ ⟨rfl, rfl, rfl, trivial⟩ rfl) ?_
      intro k hk
      have ht := tot_in hv hb st k (by omega)
      have hnv := nodeV_in hv hb k
      have hco := hr.co k
      have hcs := cost_in hv k
      have Lc : ((rowOf P n).coefs.map encI).length = (rowOf P n).coefs.length := List.length_map ..
      have Lc2 := hr.len
      (conv => whnf); (repeat (first | (refine arith_i ⟨by omega, by omega⟩ ?_; conv => whnf) | (refine need_i (by first | omega | (simp only [List.length_append, List.length_cons, List.length_nil]; omega)) ?_; conv => whnf) | ((with_reducible refine branch_tt ?_); conv => whnf) | ((with_reducible refine branch_ff ?_); conv => whnf) | (with_reducible refine branch_not ?_) | ((with_reducible refine slc_e ?_); conv => whnf) | ((with_reducible refine callS_a ?_); conv => whnf) | ((with_reducible refine bld_a ?_); conv => whnf) | ((with_reducible refine own_e ?_); conv => whnf) | ((with_reducible refine mkmap_b ?_); conv => whnf)))
      refine branch_d (fun h => ?_) (fun h => ?_)
      · (conv => whnf); (repeat (first | (refine arith_i ⟨by omega, by omega⟩ ?_; conv => whnf) | (refine need_i (by first | omega | (simp only [List.length_append, List.length_cons, List.length_nil]; omega)) ?_; conv => whnf) | ((with_reducible refine branch_tt ?_); conv => whnf) | ((with_reducible refine branch_ff ?_); conv => whnf) | (with_reducible refine branch_not ?_) | ((with_reducible refine slc_e ?_); conv => whnf) | ((with_reducible refine callS_a ?_); conv => whnf) | ((with_reducible refine bld_a ?_); conv => whnf) | ((with_reducible refine own_e ?_); conv => whnf) | ((with_reducible refine mkmap_b ?_); conv => whnf)))
        refine idx_m (by omega) (by omega) fun c hc => ?_
        rw [Int.toNat_natCast] at hc
        have ec := nth_eq hc
        have q1 := mul_in (a := n.den) (b := c) (A := 10000) (B := 10000) (by omega) (by omega)
        (conv => whnf); (repeat (first | (refine arith_i ⟨by omega, by omega⟩ ?_; conv => whnf) | (refine need_i (by first | omega | (simp only [List.length_append, List.length_cons, List.length_nil]; omega)) ?_; conv => whnf) | ((with_reducible refine branch_tt ?_); conv => whnf) | ((with_reducible refine branch_ff ?_); conv => whnf) | (with_reducible refine branch_not ?_) | ((with_reducible refine slc_e ?_); conv => whnf) | ((with_reducible refine callS_a ?_); conv => whnf) | ((with_reducible refine bld_a ?_); conv => whnf) | ((with_reducible refine own_e ?_); conv => whnf) | ((with_reducible refine mkmap_b ?_); conv => whnf)))
        refine draw_i 14 (.take 0 (.take 1 (.take 2 (.take 3 (.take 4 (.take 5 (.take 6 (.take 7 (.take 8 (.take 9 (.take 10 (.take 11 (.take 12 (.take 13 .done)))))))))))))) (by decide +kernel) ?_
        (conv => whnf); (repeat (first | (refine arith_i ⟨by omega, by omega⟩ ?_; conv => whnf) | (refine need_i (by first | omega | (simp only [List.length_append, List.length_cons, List.length_nil]; omega)) ?_; conv => whnf) | ((with_reducible refine branch_tt ?_); conv => whnf) | ((with_reducible refine branch_ff ?_); conv => whnf) | (with_reducible refine branch_not ?_) | ((with_reducible refine slc_e ?_); conv => whnf) | ((with_reducible refine callS_a ?_); conv => whnf) | ((with_reducible refine bld_a ?_); conv => whnf) | ((with_reducible refine own_e ?_); conv => whnf) | ((with_reducible refine mkmap_b ?_); conv => whnf)))
        refine idx_m (by omega) (by omega) fun co hco2 => ?_
        rw [Int.toNat_natCast] at hco2
        have eco := nth_eq hco2
        have q2 := mul_in (a := n.num) (b := co) (A := 10000) (B := 10000) (by omega) (by omega)
        have env : nodeV P n k = n.den * c - n.num * co := by rw [nodeV, ec, eco]
        (conv => whnf); (repeat (first | (refine arith_i ⟨by omega, by omega⟩ ?_; conv => whnf) | (refine need_i (by first | omega | (simp only [List.length_append, List.length_cons, List.length_nil]; omega)) ?_; conv => whnf) | ((with_reducible refine branch_tt ?_); conv => whnf) | ((with_reducible refine branch_ff ?_); conv => whnf) | (with_reducible refine branch_not ?_) | ((with_reducible refine slc_e ?_); conv => whnf) | ((with_reducible refine callS_a ?_); conv => whnf) | ((with_reducible refine bld_a ?_); conv => whnf) | ((with_reducible refine own_e ?_); conv => whnf) | ((with_reducible refine mkmap_b ?_); conv => whnf)))
        refine idx_m (by omega) (by omega) fun sx hsx => ?_
        rw [Int.toNat_natCast] at hsx
        have esx := nth_eq hsx
        have nx := tot_next (P := P) (st := st) (n := n) (k := k)
        rw [esx, env] at nx
        (conv => whnf); (repeat (first | (refine arith_i ⟨by omega, by omega⟩ ?_; conv => whnf) | (refine need_i (by first | omega | (simp only [List.length_append, List.length_cons, List.length_nil]; omega)) ?_; conv => whnf) | ((with_reducible refine branch_tt ?_); conv => whnf) | ((with_reducible refine branch_ff ?_); conv => whnf) | (with_reducible refine branch_not ?_) | ((with_reducible refine slc_e ?_); conv => whnf) | ((with_reducible refine callS_a ?_); conv => whnf) | ((with_reducible refine bld_a ?_); conv => whnf) | ((with_reducible refine own_e ?_); conv => whnf) | ((with_reducible refine mkmap_b ?_); conv => whnf)))
        refine branch_e (fun e1 => ?_) (fun e1 => ?_)
        · rw [contr, if_pos e1] at nx
          (conv => whnf); (repeat (first | (refine arith_i ⟨by omega, by omega⟩ ?_; conv => whnf) | (refine need_i (by first | omega | (simp only [List.length_append, List.length_cons, List.length_nil]; omega)) ?_; conv => whnf) | ((with_reducible refine branch_tt ?_); conv => whnf) | ((with_reducible refine branch_ff ?_); conv => whnf) | (with_reducible refine branch_not ?_) | ((with_reducible refine slc_e ?_); conv => whnf) | ((with_reducible refine callS_a ?_); conv => whnf) | ((with_reducible refine bld_a ?_); conv => whnf) | ((with_reducible refine own_e ?_); conv => whnf) | ((with_reducible refine mkmap_b ?_); conv => whnf)))
          exact ⟨k + 1, by omega, le_mk ⟨rfl, rfl, rfl, rfl, int_eq (by rw [nx]), rfl, rfl, rfl, trivial⟩ ⟨rfl, rfl, rfl, trivial⟩ rfl, by omega⟩
        · rw [contr, if_neg e1] at nx
          (conv => whnf); (repeat (first | (refine arith_i ⟨by omega, by omega⟩ ?_; conv => whnf) | (refine need_i (by first | omega | (simp only [List.length_append, List.length_cons, List.length_nil]; omega)) ?_; conv => whnf) | ((with_reducible refine branch_tt ?_); conv => whnf) | ((with_reducible refine branch_ff ?_); conv => whnf) | (with_reducible refine branch_not ?_) | ((with_reducible refine slc_e ?_); conv => whnf) | ((with_reducible refine callS_a ?_); conv => whnf) | ((with_reducible refine bld_a ?_); conv => whnf) | ((with_reducible refine own_e ?_); conv => whnf) | ((with_reducible refine mkmap_b ?_); conv => whnf)))
          refine branch_e (fun e2 => ?_) (fun e2 => ?_)
          · rw [if_pos e2] at nx
            (conv => whnf); (repeat (first | (refine arith_i ⟨by omega, by omega⟩ ?_; conv => whnf) | (refine need_i (by first | omega | (simp only [List.length_append, List.length_cons, List.length_nil]; omega)) ?_; conv => whnf) | ((with_reducible refine branch_tt ?_); conv => whnf) | ((with_reducible refine branch_ff ?_); conv => whnf) | (with_reducible refine branch_not ?_) | ((with_reducible refine slc_e ?_); conv => whnf) | ((with_reducible refine callS_a ?_); conv => whnf) | ((with_reducible refine bld_a ?_); conv => whnf) | ((with_reducible refine own_e ?_); conv => whnf) | ((with_reducible refine mkmap_b ?_); conv => whnf)))
            exact ⟨k + 1, by omega, le_mk ⟨rfl, rfl, rfl, rfl, int_eq (by rw [nx, min_if]), rfl, rfl, rfl, trivial⟩ ⟨rfl, rfl, rfl, trivial⟩ rfl, by omega⟩
          · rw [if_neg e2, Int.add_zero] at nx
            (conv => whnf); (repeat (first | (refine arith_i ⟨by omega, by omega⟩ ?_; conv => whnf) | (refine need_i (by first | omega | (simp only [List.length_append, List.length_cons, List.length_nil]; omega)) ?_; conv => whnf) | ((with_reducible refine branch_tt ?_); conv => whnf) | ((with_reducible refine branch_ff ?_); conv => whnf) | (with_reducible refine branch_not ?_) | ((with_reducible refine slc_e ?_); conv => whnf) | ((with_reducible refine callS_a ?_); conv => whnf) | ((with_reducible refine bld_a ?_); conv => whnf) | ((with_reducible refine own_e ?_); conv => whnf) | ((with_reducible refine mkmap_b ?_); conv => whnf)))
            exact ⟨k + 1, by omega, le_mk ⟨rfl, rfl, rfl, rfl, int_eq (by rw [nx]), rfl, rfl, rfl, trivial⟩ ⟨rfl, rfl, rfl, trivial⟩ rfl, by omega⟩
      · have hkn : k = P.costs.length := by omega
        subst hkn
        (conv => whnf); (repeat (first | (refine arith_i ⟨by omega, by omega⟩ ?_; conv => whnf) | (refine need_i (by first | omega | (simp only [List.length_append, List.length_cons, List.length_nil]; omega)) ?_; conv => whnf) | ((with_reducible refine branch_tt ?_); conv => whnf) | ((with_reducible refine branch_ff ?_); conv => whnf) | (with_reducible refine branch_not ?_) | ((with_reducible refine slc_e ?_); conv => whnf) | ((with_reducible refine callS_a ?_); conv => whnf) | ((with_reducible refine bld_a ?_); conv => whnf) | ((with_reducible refine own_e ?_); conv => whnf) | ((with_reducible refine mkmap_b ?_); conv => whnf)))
        refine call_e (ceil_ok (totF P st n P.costs.length) n.den (by omega) hd (by have := tdiv_in (a := totF P st n P.costs.length) hd.1; omega)) ?_
        (conv => whnf); (repeat (first | (refine arith_i ⟨by omega, by omega⟩ ?_; conv => whnf) | (refine need_i (by first | omega | (simp only [List.length_append, List.length_cons, List.length_nil]; omega)) ?_; conv => whnf) | ((with_reducible refine branch_tt ?_); conv => whnf) | ((with_reducible refine branch_ff ?_); conv => whnf) | (with_reducible refine branch_not ?_) | ((with_reducible refine slc_e ?_); conv => whnf) | ((with_reducible refine callS_a ?_); conv => whnf) | ((with_reducible refine bld_a ?_); conv => whnf) | ((with_reducible refine own_e ?_); conv => whnf) | ((with_reducible refine mkmap_b ?_); conv => whnf)))
        exact ret_p rfl rfl
    · (conv => whnf); (repeat (first | (refine arith_i ⟨by omega, by omega⟩ ?_; conv => whnf) | (refine need_i (by first | omega | (simp only [List.length_append, List.length_cons, List.length_nil]; omega)) ?_; conv => whnf) | ((with_reducible refine branch_tt ?_); conv => whnf) | ((with_reducible refine branch_ff ?_); conv => whnf) | (with_reducible refine branch_not ?_) | ((with_reducible refine slc_e ?_); conv => whnf) | ((with_reducible refine callS_a ?_); conv => whnf) | ((with_reducible refine bld_a ?_); conv => whnf) | ((with_reducible refine own_e ?_); conv => whnf) | ((with_reducible refine mkmap_b ?_); conv => whnf)))
      refine loop_i (fun k : Nat => k ≤ P.costs.length) (fun k => mkSt [(1, ints st), (3, .ptr 3 0), (5, .ptr 5 0), (7, .ptr 7 0), (8, .int .i64 (totF P st n k)), (40, ints P.costs), (41, .int .i64 (P.costs.map encI).length), (42, .int .i64 k)] [(3, [ints P.costs, rowsV P.rows]), (5, encN n), (7, encRow (rowOf P n))] false) (fun k => P.costs.length - k) 0 (Nat.zero_le _) (le_mk ⟨rfl, rfl, rfl, rfl, int_eq (by simp [totF, sumN, startF, hneg]), rfl, rfl, rfl, trivial⟩ ⟨rfl, rfl, rfl, trivial⟩ rfl) ?_
      intro k hk
      have ht := tot_in hv hb st k (by omega)
      have hnv := nodeV_in hv hb k
      have hco := hr.co k
      have hcs := cost_in hv k
      have Lc : ((rowOf P n).coefs.map encI).length = (rowOf P n).coefs.length := List.length_map ..
      have Lc2 := hr.len
      (conv => whnf); (repeat (first | (refine arith_i ⟨by omega, by omega⟩ ?_; conv => whnf) | (refine need_i (by first | omega | (simp only [List.length_append, List.length_cons, List.length_nil]; omega)) ?_; conv => whnf) | ((with_reducible refine branch_tt ?_); conv => whnf) | ((with_reducible refine branch_ff ?_); conv => whnf) | (with_reducible refine branch_not ?_) | ((with_reducible refine slc_e ?_); conv => whnf) | ((with_reducible refine callS_a ?_); conv => whnf) | ((with_reducible refine bld_a ?_); conv => whnf) | ((with_reducible refine own_e ?_); conv => whnf) | ((with_reducible refine mkmap_b ?_); conv => whnf)))
      refine branch_d (fun h => ?_) (fun h => ?_)
      · (conv => whnf); (repeat (first | (refine arith_i ⟨by omega, by omega⟩ ?_; conv => whnf) | (refine need_i (by first | omega | (simp only [List.length_append, List.length_cons, List.length_nil]; omega)) ?_; conv => whnf) | ((with_reducible refine branch_tt ?_); conv => whnf) | ((with_reducible refine branch_ff ?_); conv => whnf) | (with_reducible refine branch_not ?_) | ((with_reducible refine slc_e ?_); conv => whnf) | ((with_reducible refine callS_a ?_); conv => whnf) | ((with_reducible refine bld_a ?_); conv => whnf) | ((with_reducible refine own_e ?_); conv => whnf) | ((with_reducible refine mkmap_b ?_); conv => whnf)))
        refine idx_m (by omega) (by omega) fun c hc => ?_
        rw [Int.toNat_natCast] at hc
        have ec := nth_eq hc
        have q1 := mul_in (a := n.den) (b := c) (A := 10000) (B := 10000) (by omega) (by omega)
        (conv => whnf); (repeat (first | (refine arith_i ⟨by omega, by omega⟩ ?_; conv => whnf) | (refine need_i (by first | omega | (simp only [List.length_append, List.length_cons, List.length_nil]; omega)) ?_; conv => whnf) | ((with_reducible refine branch_tt ?_); conv => whnf) | ((with_reducible refine branch_ff ?_); conv => whnf) | (with_reducible refine branch_not ?_) | ((with_reducible refine slc_e ?_); conv => whnf) | ((with_reducible refine callS_a ?_); conv => whnf) | ((with_reducible refine bld_a ?_); conv => whnf) | ((with_reducible refine own_e ?_); conv => whnf) | ((with_reducible refine mkmap_b ?_); conv => whnf)))
        refine draw_i 14 (.take 0 (.take 1 (.take 2 (.take 3 (.take 4 (.take 5 (.take 6 (.take 7 (.take 8 (.take 9 (.take 10 (.take 11 (.take 12 (.take 13 .done)))))))))))))) (by decide +kernel) ?_
        (conv => whnf); (repeat (first | (refine arith_i ⟨by omega, by omega⟩ ?_; conv => whnf) | (refine need_i (by first | omega | (simp only [List.length_append, List.length_cons, List.length_nil]; omega)) ?_; conv => whnf) | ((with_reducible refine branch_tt ?_); conv => whnf) | ((with_reducible refine branch_ff ?_); conv => whnf) | (with_reducible refine branch_not ?_) | ((with_reducible refine slc_e ?_); conv => whnf) | ((with_reducible refine callS_a ?_); conv => whnf) | ((with_reducible refine bld_a ?_); conv => whnf) | ((with_reducible refine own_e ?_); conv => whnf) | ((with_reducible refine mkmap_b ?_); conv => whnf)))
        refine idx_m (by omega) (by omega) fun co hco2 => ?_
        rw [Int.toNat_natCast] at hco2
        have eco := nth_eq hco2
        have q2 := mul_in (a := n.num) (b := co) (A := 10000) (B := 10000) (by omega) (by omega)
        have env : nodeV P n k = n.den * c - n.num * co := by rw [nodeV, ec, eco]
        (conv => whnf); (repeat (first | (refine arith_i ⟨by omega, by omega⟩ ?_; conv => whnf) | (refine need_i (by first | omega | (simp only [List.length_append, List.length_cons, List.length_nil]; omega)) ?_; conv => whnf) | ((with_reducible refine branch_tt ?_); conv => whnf) | ((with_reducible refine branch_ff ?_); conv => whnf) | (with_reducible refine branch_not ?_) | ((with_reducible refine slc_e ?_); conv => whnf) | ((with_reducible refine callS_a ?_); conv => whnf) | ((with_reducible refine bld_a ?_); conv => whnf) | ((with_reducible refine own_e ?_); conv => whnf) | ((with_reducible refine mkmap_b ?_); conv => whnf)))
        refine idx_m (by omega) (by omega) fun sx hsx => ?_
        rw [Int.toNat_natCast] at hsx
        have esx := nth_eq hsx
        have nx := tot_next (P := P) (st := st) (n := n) (k := k)
        rw [esx, env] at nx
        (conv => whnf); (repeat (first | (refine arith_i ⟨by omega, by omega⟩ ?_; conv => whnf) | (refine need_i (by first | omega | (simp only [List.length_append, List.length_cons, List.length_nil]; omega)) ?_; conv => whnf) | ((with_reducible refine branch_tt ?_); conv => whnf) | ((with_reducible refine branch_ff ?_); conv => whnf) | (with_reducible refine branch_not ?_) | ((with_reducible refine slc_e ?_); conv => whnf) | ((with_reducible refine callS_a ?_); conv => whnf) | ((with_reducible refine bld_a ?_); conv => whnf) | ((with_reducible refine own_e ?_); conv => whnf) | ((with_reducible refine mkmap_b ?_); conv => whnf)))
        refine branch_e (fun e1 => ?_) (fun e1 => ?_)
        · rw [contr, if_pos e1] at nx
          (conv => whnf); (repeat (first | (refine arith_i ⟨by omega, by omega⟩ ?_; conv => whnf) | (refine need_i (by first | omega | (simp only [List.length_append, List.length_cons, List.length_nil]; omega)) ?_; conv => whnf) | ((with_reducible refine branch_tt ?_); conv => whnf) | ((with_reducible refine branch_ff ?_); conv => whnf) | (with_reducible refine branch_not ?_) | ((with_reducible refine slc_e ?_); conv => whnf) | ((with_reducible refine callS_a ?_); conv => whnf) | ((with_reducible refine bld_a ?_); conv => whnf) | ((with_reducible refine own_e ?_); conv => whnf) | ((with_reducible refine mkmap_b ?_); conv => whnf)))
          exact ⟨k + 1, by omega, le_mk ⟨rfl, rfl, rfl, rfl, int_eq (by rw [nx]), rfl, rfl, rfl, trivial⟩ ⟨rfl, rfl, rfl, trivial⟩ rfl, by omega⟩
        · rw [contr, if_neg e1] at nx
          (conv => whnf); (repeat (first | (refine arith_i ⟨by omega, by omega⟩ ?_; conv => whnf) | (refine need_i (by first | omega | (simp only [List.length_append, List.length_cons, List.length_nil]; omega)) ?_; conv => whnf) | ((with_reducible refine branch_tt ?_); conv => whnf) | ((with_reducible refine branch_ff ?_); conv => whnf) | (with_reducible refine branch_not ?_) | ((with_reducible refine slc_e ?_); conv => whnf) | ((with_reducible refine callS_a ?_); conv => whnf) | ((with_reducible refine bld_a ?_); conv => whnf) | ((with_reducible refine own_e ?_); conv => whnf) | ((with_reducible refine mkmap_b ?_); conv => whnf)))
          refine branch_e (fun e2 => ?_) (fun e2 => ?_)
          · rw [if_pos e2] at nx
            (conv => whnf); (repeat (first | (refine arith_i ⟨by omega, by omega⟩ ?_; conv => whnf) | (refine need_i (by first | omega | (simp only [List.length_append, List.length_cons, List.length_nil]; omega)) ?_; conv => whnf) | ((with_reducible refine branch_tt ?_); conv => whnf) | ((with_reducible refine branch_ff ?_); conv => whnf) | (with_reducible refine branch_not ?_) | ((with_reducible refine slc_e ?_); conv => whnf) | ((with_reducible refine callS_a ?_); conv => whnf) | ((with_reducible refine bld_a ?_); conv => whnf) | ((with_reducible refine own_e ?_); conv => whnf) | ((with_reducible refine mkmap_b ?_); conv => whnf)))
            exact ⟨k + 1, by omega, le_mk ⟨rfl, rfl, rfl, rfl, int_eq (by rw [nx, min_if]), rfl, rfl, rfl, trivial⟩ ⟨rfl, rfl, rfl, trivial⟩ rfl, by omega⟩
          · rw [if_neg e2, Int.add_zero] at nx
            (conv => whnf); (repeat (first | (refine arith_i ⟨by omega, by omega⟩ ?_; conv => whnf) | (refine need_i (by first | omega | (simp only [List.length_append, List.length_cons, List.length_nil]; omega)) ?_; conv => whnf) | ((with_reducible refine branch_tt ?_); conv => whnf) | ((with_reducible refine branch_ff ?_); conv => whnf) | (with_reducible refine branch_not ?_) | ((with_reducible refine slc_e ?_); conv => whnf) | ((with_reducible refine callS_a ?_); conv => whnf) | ((with_reducible refine bld_a ?_); conv => whnf) | ((with_reducible refine own_e ?_); conv => whnf) | ((with_reducible refine mkmap_b ?_); conv => whnf)))
            exact ⟨k + 1, by omega, le_mk ⟨rfl, rfl, rfl, rfl, int_eq (by rw [nx]), rfl, rfl, rfl, trivial⟩ ⟨rfl, rfl, rfl, trivial⟩ rfl, by omega⟩
      · have hkn : k = P.costs.length := by omega
        subst hkn
        (conv => whnf); (repeat (first | (refine arith_i ⟨by omega, by omega⟩ ?_; conv => whnf) | (refine need_i (by first | omega | (simp only [List.length_append, List.length_cons, List.length_nil]; omega)) ?_; conv => whnf) | ((with_reducible refine branch_tt ?_); conv => whnf) | ((with_reducible refine branch_ff ?_); conv => whnf) | (with_reducible refine branch_not ?_) | ((with_reducible refine slc_e ?_); conv => whnf) | ((with_reducible refine callS_a ?_); conv => whnf) | ((with_reducible refine bld_a ?_); conv => whnf) | ((with_reducible refine own_e ?_); conv => whnf) | ((with_reducible refine mkmap_b ?_); conv => whnf)))
        refine call_e (ceil_ok (totF P st n P.costs.length) n.den (by omega) hd (by have := tdiv_in (a := totF P st n P.costs.length) hd.1; omega)) ?_
        (conv => whnf); (repeat (first | (refine arith_i ⟨by omega, by omega⟩ ?_; conv => whnf) | (refine need_i (by first | omega | (simp only [List.length_append, List.length_cons, List.length_nil]; omega)) ?_; conv => whnf) | ((with_reducible refine branch_tt ?_); conv => whnf) | ((with_reducible refine branch_ff ?_); conv => whnf) | (with_reducible refine branch_not ?_) | ((with_reducible refine slc_e ?_); conv => whnf) | ((with_reducible refine callS_a ?_); conv => whnf) | ((with_reducible refine bld_a ?_); conv => whnf) | ((with_reducible refine own_e ?_); conv => whnf) | ((with_reducible refine mkmap_b ?_); conv => whnf)))
        exact ret_p rfl rfl
  · have er : encRow (rowOf P n) = [.lst 1 (List.replicate (P.costs.map encI).length [.int .i64 0]), .int .i64 0, .int .i64 0] := by
      rw [rowOf, if_pos (by omega), L1]
      simp [encRow, ints, encI, List.map_replicate]
    (conv => whnf); (repeat (first | (refine arith_i ⟨by omega, by omega⟩ ?_; conv => whnf) | (refine need_i (by first | omega | (simp only [List.length_append, List.length_cons, List.length_nil]; omega)) ?_; conv => whnf) | ((with_reducible refine branch_tt ?_); conv => whnf) | ((with_reducible refine branch_ff ?_); conv => whnf) | (with_reducible refine branch_not ?_) | ((with_reducible refine slc_e ?_); conv => whnf) | ((with_reducible refine callS_a ?_); conv => whnf) | ((with_reducible refine bld_a ?_); conv => whnf) | ((with_reducible refine own_e ?_); conv => whnf) | ((with_reducible refine mkmap_b ?_); conv => whnf)))
    refine rest_i (mkSt [(1, ints st), (3, .ptr 3 0), (5, .ptr 5 0), (7, .ptr 7 0)] [(3, [ints P.costs, rowsV P.rows]), (5, encN n), (7, encRow (rowOf P n))] false) (Le.trans (le_erase 15) (le_mk ⟨rfl, rfl, rfl, rfl, trivial⟩ ⟨rfl, rfl, by rw [er]; rfl, trivial⟩ rfl)) ?_
    (conv => whnf); (repeat (first | (refine arith_i ⟨by omega, by omega⟩ ?_; conv => whnf) | (refine need_i (by first | omega | (simp only [List.length_append, List.length_cons, List.length_nil]; omega)) ?_; conv => whnf) | ((with_reducible refine branch_tt ?_); conv => whnf) | ((with_reducible refine branch_ff ?_); conv => whnf) | (with_reducible refine branch_not ?_) | ((with_reducible refine slc_e ?_); conv => whnf) | ((with_reducible refine callS_a ?_); conv => whnf) | ((with_reducible refine bld_a ?_); conv => whnf) | ((with_reducible refine own_e ?_); conv => whnf) | ((with_reducible refine mkmap_b ?_); conv => whnf)))
    have m1 := mul_in (a := n.num) (b := (rowOf P n).least) (A := 10000) (B := 1000000) (by omega) (by have := hr.le; omega)
    have m2 := mul_in (a := n.num) (b := (rowOf P n).most) (A := 10000) (B := 1000000) (by omega) (by have := hr.mo; omega)
    refine arith_i (by omega) ?_
    (conv => whnf); (repeat (first | (refine arith_i ⟨by omega, by omega⟩ ?_; conv => whnf) | (refine need_i (by first | omega | (simp only [List.length_append, List.length_cons, List.length_nil]; omega)) ?_; conv => whnf) | ((with_reducible refine branch_tt ?_); conv => whnf) | ((with_reducible refine branch_ff ?_); conv => whnf) | (with_reducible refine branch_not ?_) | ((with_reducible refine slc_e ?_); conv => whnf) | ((with_reducible refine callS_a ?_); conv => whnf) | ((with_reducible refine bld_a ?_); conv => whnf) | ((with_reducible refine own_e ?_); conv => whnf) | ((with_reducible refine mkmap_b ?_); conv => whnf)))
    have fin : ∀ t : Int, t = startF P n → True := fun _ _ => trivial
    refine branch_d (fun hneg => ?_) (fun hneg => ?_)
    · (conv => whnf); (repeat (first | (refine arith_i ⟨by omega, by omega⟩ ?_; conv => whnf) | (refine need_i (by first | omega | (simp only [List.length_append, List.length_cons, List.length_nil]; omega)) ?_; conv => whnf) | ((with_reducible refine branch_tt ?_); conv => whnf) | ((with_reducible refine branch_ff ?_); conv => whnf) | (with_reducible refine branch_not ?_) | ((with_reducible refine slc_e ?_); conv => whnf) | ((with_reducible refine callS_a ?_); conv => whnf) | ((with_reducible refine bld_a ?_); conv => whnf) | ((with_reducible refine own_e ?_); conv => whnf) | ((with_reducible refine mkmap_b ?_); conv => whnf)))
      refine loop_i (fun k : Nat => k ≤ P.costs.length) (fun k => mkSt [(1, ints st), (3, .ptr 3 0), (5, .ptr 5 0), (7, .ptr 7 0), (8, .int .i64 (totF P st n k)), (40, ints P.costs), (41, .int .i64 (P.costs.map encI).length), (42, .int .i64 k)] [(3, [ints P.costs, rowsV P.rows]), (5, encN n), (7, encRow (rowOf P n))] false) (fun k => P.costs.length - k) 0 (Nat.zero_le _) (le_mk ⟨rfl, rfl, rfl, rfl, int_eq (by simp [totF, sumN, startF, hneg]), rfl, rfl, rfl, trivial⟩ ⟨rfl, rfl, rfl, trivial⟩ rfl) ?_
      intro k hk
      have ht := tot_in hv hb st k (by omega)
      have hnv := nodeV_in hv hb k
      have hco := hr.co k
      have hcs := cost_in hv k
      have Lc : ((rowOf P n).coefs.map encI).length = (rowOf P n).coefs.length := List.length_map ..
      have Lc2 := hr.len
      (conv => whnf); (repeat (first | (refine arith_i ⟨by omega, by omega⟩ ?_; conv => whnf) | (refine need_i (by first | omega | (simp only [List.length_append, List.length_cons, List.length_nil]; omega)) ?_; conv => whnf) | ((with_reducible refine branch_tt ?_); conv => whnf) | ((with_reducible refine branch_ff ?_); conv => whnf) | (with_reducible refine branch_not ?_) | ((with_reducible refine slc_e ?_); conv => whnf) | ((with_reducible refine callS_a ?_); conv => whnf) | ((with_reducible refine bld_a ?_); conv => whnf) | ((with_reducible refine own_e ?_); conv => whnf) | ((with_reducible refine mkmap_b ?_); conv => whnf)))
      refine branch_d (fun h => ?_) (fun h => ?_)
      · (conv => whnf); (repeat (first | (refine arith_i ⟨by omega, by omega⟩ ?_; conv => whnf) | (refine need_i (by first | omega | (simp only [List.length_append, List.length_cons, List.length_nil]; omega)) ?_; conv => whnf) | ((with_reducible refine branch_tt ?_); conv => whnf) | ((with_reducible refine branch_ff ?_); conv => whnf) | (with_reducible refine branch_not ?_) | ((with_reducible refine slc_e ?_); conv => whnf) | ((with_reducible refine callS_a ?_); conv => whnf) | ((with_reducible refine bld_a ?_); conv => whnf) | ((with_reducible refine own_e ?_); conv => whnf) | ((with_reducible refine mkmap_b ?_); conv => whnf)))
        refine idx_m (by omega) (by omega) fun c hc => ?_
        rw [Int.toNat_natCast] at hc
        have ec := nth_eq hc
        have q1 := mul_in (a := n.den) (b := c) (A := 10000) (B := 10000) (by omega) (by omega)
        (conv => whnf); (repeat (first | (refine arith_i ⟨by omega, by omega⟩ ?_; conv => whnf) | (refine need_i (by first | omega | (simp only [List.length_append, List.length_cons, List.length_nil]; omega)) ?_; conv => whnf) | ((with_reducible refine branch_tt ?_); conv => whnf) | ((with_reducible refine branch_ff ?_); conv => whnf) | (with_reducible refine branch_not ?_) | ((with_reducible refine slc_e ?_); conv => whnf) | ((with_reducible refine callS_a ?_); conv => whnf) | ((with_reducible refine bld_a ?_); conv => whnf) | ((with_reducible refine own_e ?_); conv => whnf) | ((with_reducible refine mkmap_b ?_); conv => whnf)))
        refine draw_i 14 (.take 0 (.take 1 (.take 2 (.take 3 (.take 4 (.take 5 (.take 6 (.take 7 (.take 8 (.take 9 (.take 10 (.take 11 (.take 12 (.take 13 .done)))))))))))))) (by decide +kernel) ?_
        (conv => whnf); (repeat (first | (refine arith_i ⟨by omega, by omega⟩ ?_; conv => whnf) | (refine need_i (by first | omega | (simp only [List.length_append, List.length_cons, List.length_nil]; omega)) ?_; conv => whnf) | ((with_reducible refine branch_tt ?_); conv => whnf) | ((with_reducible refine branch_ff ?_); conv => whnf) | (with_reducible refine branch_not ?_) | ((with_reducible refine slc_e ?_); conv => whnf) | ((with_reducible refine callS_a ?_); conv => whnf) | ((with_reducible refine bld_a ?_); conv => whnf) | ((with_reducible refine own_e ?_); conv => whnf) | ((with_reducible refine mkmap_b ?_); conv => whnf)))
        refine idx_m (by omega) (by omega) fun co hco2 => ?_
        rw [Int.toNat_natCast] at hco2
        have eco := nth_eq hco2
        have q2 := mul_in (a := n.num) (b := co) (A := 10000) (B := 10000) (by omega) (by omega)
        have env : nodeV P n k = n.den * c - n.num * co := by rw [nodeV, ec, eco]
        (conv => whnf); (repeat (first | (refine arith_i ⟨by omega, by omega⟩ ?_; conv => whnf) | (refine need_i (by first | omega | (simp only [List.length_append, List.length_cons, List.length_nil]; omega)) ?_; conv => whnf) | ((with_reducible refine branch_tt ?_); conv => whnf) | ((with_reducible refine branch_ff ?_); conv => whnf) | (with_reducible refine branch_not ?_) | ((with_reducible refine slc_e ?_); conv => whnf) | ((with_reducible refine callS_a ?_); conv => whnf) | ((with_reducible refine bld_a ?_); conv => whnf) | ((with_reducible refine own_e ?_); conv => whnf) | ((with_reducible refine mkmap_b ?_); conv => whnf)))
        refine idx_m (by omega) (by omega) fun sx hsx => ?_
        rw [Int.toNat_natCast] at hsx
        have esx := nth_eq hsx
        have nx := tot_next (P := P) (st := st) (n := n) (k := k)
        rw [esx, env] at nx
        (conv => whnf); (repeat (first | (refine arith_i ⟨by omega, by omega⟩ ?_; conv => whnf) | (refine need_i (by first | omega | (simp only [List.length_append, List.length_cons, List.length_nil]; omega)) ?_; conv => whnf) | ((with_reducible refine branch_tt ?_); conv => whnf) | ((with_reducible refine branch_ff ?_); conv => whnf) | (with_reducible refine branch_not ?_) | ((with_reducible refine slc_e ?_); conv => whnf) | ((with_reducible refine callS_a ?_); conv => whnf) | ((with_reducible refine bld_a ?_); conv => whnf) | ((with_reducible refine own_e ?_); conv => whnf) | ((with_reducible refine mkmap_b ?_); conv => whnf)))
        refine branch_e (fun e1 => ?_) (fun e1 => ?_)
        · rw [contr, if_pos e1] at nx
          (conv => whnf); (repeat (first | (refine arith_i ⟨by omega, by omega⟩ ?_; conv => whnf) | (refine need_i (by first | omega | (simp only [List.length_append, List.length_cons, List.length_nil]; omega)) ?_; conv => whnf) | ((with_reducible refine branch_tt ?_); conv => whnf) | ((with_reducible refine branch_ff ?_); conv => whnf) | (with_reducible refine branch_not ?_) | ((with_reducible refine slc_e ?_); conv => whnf) | ((with_reducible refine callS_a ?_); conv => whnf) | ((with_reducible refine bld_a ?_); conv => whnf) | ((with_reducible refine own_e ?_); conv => whnf) | ((with_reducible refine mkmap_b ?_); conv => whnf)))
          exact ⟨k + 1, by omega, le_mk ⟨rfl, rfl, rfl, rfl, int_eq (by rw [nx]), rfl, rfl, rfl, trivial⟩ ⟨rfl, rfl, rfl, trivial⟩ rfl, by omega⟩
        · rw [contr, if_neg e1] at nx
          (conv => whnf); (repeat (first | (refine arith_i ⟨by omega, by omega⟩ ?_; conv => whnf) | (refine need_i (by first | omega | (simp only [List.length_append, List.length_cons, List.length_nil]; omega)) ?_; conv => whnf) | ((with_reducible refine branch_tt ?_); conv => whnf) | ((with_reducible refine branch_ff ?_); conv => whnf) | (with_reducible refine branch_not ?_) | ((with_reducible refine slc_e ?_); conv => whnf) | ((with_reducible refine callS_a ?_); conv => whnf) | ((with_reducible refine bld_a ?_); conv => whnf) | ((with_reducible refine own_e ?_); conv => whnf) | ((with_reducible refine mkmap_b ?_); conv => whnf)))
          refine branch_e (fun e2 => ?_) (fun e2 => ?_)
          · rw [if_pos e2] at nx
            (conv => whnf); (repeat (first | (refine arith_i ⟨by omega, by omega⟩ ?_; conv => whnf) | (refine need_i (by first | omega | (simp only [List.length_append, List.length_cons, List.length_nil]; omega)) ?_; conv => whnf) | ((with_reducible refine branch_tt ?_); conv => whnf) | ((with_reducible refine branch_ff ?_); conv => whnf) | (with_reducible refine branch_not ?_) | ((with_reducible refine slc_e ?_); conv => whnf) | ((with_reducible refine callS_a ?_); conv => whnf) | ((with_reducible refine bld_a ?_); conv => whnf) | ((with_reducible refine own_e ?_); conv => whnf) | ((with_reducible refine mkmap_b ?_); conv => whnf)))
            exact ⟨k + 1, by omega, le_mk ⟨rfl, rfl, rfl, rfl, int_eq (by rw [nx, min_if]), rfl, rfl, rfl, trivial⟩ ⟨rfl, rfl, rfl, trivial⟩ rfl, by omega⟩
          · rw [if_neg e2, Int.add_zero] at nx
            (conv => whnf); (repeat (first | (refine arith_i ⟨by omega, by omega⟩ ?_; conv => whnf) | (refine need_i (by first | omega | (simp only [List.length_append, List.length_cons, List.length_nil]; omega)) ?_; conv => whnf) | ((with_reducible refine branch_tt ?_); conv => whnf) | ((with_reducible refine branch_ff ?_); conv => whnf) | (with_reducible refine branch_not ?_) | ((with_reducible refine slc_e ?_); conv => whnf) | ((with_reducible refine callS_a ?_); conv => whnf) | ((with_reducible refine bld_a ?_); conv => whnf) | ((with_reducible refine own_e ?_); conv => whnf) | ((with_reducible refine mkmap_b ?_); conv => whnf)))
            exact ⟨k + 1, by omega, le_mk ⟨rfl, rfl, rfl, rfl, int_eq (by rw [nx]), rfl, rfl, rfl, trivial⟩ ⟨rfl, rfl, rfl, trivial⟩ rfl, by omega⟩
      · have hkn : k = P.costs.length := by omega
        subst hkn
        (conv => whnf); (repeat (first | (refine arith_i ⟨by omega, by omega⟩ ?_; conv => whnf) | (refine need_i (by first | omega | (simp only [List.length_append, List.length_cons, List.length_nil]; omega)) ?_; conv => whnf) | ((with_reducible refine branch_tt ?_); conv => whnf) | ((with_reducible refine branch_ff ?_); conv => whnf) | (with_reducible refine branch_not ?_) | ((with_reducible refine slc_e ?_); conv => whnf) | ((with_reducible refine callS_a ?_); conv => whnf) | ((with_reducible refine bld_a ?_); conv => whnf) | ((with_reducible refine own_e ?_); conv => whnf) | ((with_reducible refine mkmap_b ?_); conv => whnf)))
        refine call_e (ceil_ok (totF P st n P.costs.length) n.den (by omega) hd (by have := tdiv_in (a := totF P st n P.costs.length) hd.1; omega)) ?_
        (conv => whnf); (repeat (first | (refine arith_i ⟨by omega, by omega⟩ ?_; conv => whnf) | (refine need_i (by first | omega | (simp only [List.length_append, List.length_cons, List.length_nil]; omega)) ?_; conv => whnf) | ((with_reducible refine branch_tt ?_); conv => whnf) | ((with_reducible refine branch_ff ?_); conv => whnf) | (with_reducible refine branch_not ?_) | ((with_reducible refine slc_e ?_); conv => whnf) | ((with_reducible refine callS_a ?_); conv => whnf) | ((with_reducible refine bld_a ?_); conv => whnf) | ((with_reducible refine own_e ?_); conv => whnf) | ((with_reducible refine mkmap_b ?_); conv => whnf)))
        exact ret_p rfl rfl
    · (conv => whnf); (repeat (first | (refine arith_i ⟨by omega, by omega⟩ ?_; conv => whnf) | (refine need_i (by first | omega | (simp only [List.length_append, List.length_cons, List.length_nil]; omega)) ?_; conv => whnf) | ((with_reducible refine branch_tt ?_); conv => whnf) | ((with_reducible refine branch_ff ?_); conv => whnf) | (with_reducible refine branch_not ?_) | ((with_reducible refine slc_e ?_); conv => whnf) | ((with_reducible refine callS_a ?_); conv => whnf) | ((with_reducible refine bld_a ?_); conv => whnf) | ((with_reducible refine own_e ?_); conv => whnf) | ((with_reducible refine mkmap_b ?_); conv => whnf)))
      refine loop_i (fun k : Nat => k ≤ P.costs.length) (fun k => mkSt [(1, ints st), (3, .ptr 3 0), (5, .ptr 5 0), (7, .ptr 7 0), (8, .int .i64 (totF P st n k)), (40, ints P.costs), (41, .int .i64 (P.costs.map encI).length), (42, .int .i64 k)] [(3, [ints P.costs, rowsV P.rows]), (5, encN n), (7, encRow (rowOf P n))] false) (fun k => P.costs.length - k) 0 (Nat.zero_le _) (le_mk ⟨rfl, rfl, rfl, rfl, int_eq (by simp [totF, sumN, startF, hneg]), rfl, rfl, rfl, trivial⟩ ⟨rfl, rfl, rfl, trivial⟩ rfl) ?_
      intro k hk
      have ht := tot_in hv hb st k (by omega)
      have hnv := nodeV_in hv hb k
      have hco := hr.co k
      have hcs := cost_in hv k
      have Lc : ((rowOf P n).coefs.map encI).length = (rowOf P n).coefs.length := List.length_map ..
      have Lc2 := hr.len
      (conv => whnf); (repeat (first | (refine arith_i ⟨by omega, by omega⟩ ?_; conv => whnf) | (refine need_i (by first | omega | (simp only [List.length_append, List.length_cons, List.length_nil]; omega)) ?_; conv => whnf) | ((with_reducible refine branch_tt ?_); conv => whnf) | ((with_reducible refine branch_ff ?_); conv => whnf) | (with_reducible refine branch_not ?_) | ((with_reducible refine slc_e ?_); conv => whnf) | ((with_reducible refine callS_a ?_); conv => whnf) | ((with_reducible refine bld_a ?_); conv => whnf) | ((with_reducible refine own_e ?_); conv => whnf) | ((with_reducible refine mkmap_b ?_); conv => whnf)))
      refine branch_d (fun h => ?_) (fun h => ?_)
      · (conv => whnf); (repeat (first | (refine arith_i ⟨by omega, by omega⟩ ?_; conv => whnf) | (refine need_i (by first | omega | (simp only [List.length_append, List.length_cons, List.length_nil]; omega)) ?_; conv => whnf) | ((with_reducible refine branch_tt ?_); conv => whnf) | ((with_reducible refine branch_ff ?_); conv => whnf) | (with_reducible refine branch_not ?_) | ((with_reducible refine slc_e ?_); conv => whnf) | ((with_reducible refine callS_a ?_); conv => whnf) | ((with_reducible refine bld_a ?_); conv => whnf) | ((with_reducible refine own_e ?_); conv => whnf) | ((with_reducible refine mkmap_b ?_); conv => whnf)))
        refine idx_m (by omega) (by omega) fun c hc => ?_
        rw [Int.toNat_natCast] at hc
        have ec := nth_eq hc
        have q1 := mul_in (a := n.den) (b := c) (A := 10000) (B := 10000) (by omega) (by omega)
        (conv => whnf); (repeat (first | (refine arith_i ⟨by omega, by omega⟩ ?_; conv => whnf) | (refine need_i (by first | omega | (simp only [List.length_append, List.length_cons, List.length_nil]; omega)) ?_; conv => whnf) | ((with_reducible refine branch_tt ?_); conv => whnf) | ((with_reducible refine branch_ff ?_); conv => whnf) | (with_reducible refine branch_not ?_) | ((with_reducible refine slc_e ?_); conv => whnf) | ((with_reducible refine callS_a ?_); conv => whnf) | ((with_reducible refine bld_a ?_); conv => whnf) | ((with_reducible refine own_e ?_); conv => whnf) | ((with_reducible refine mkmap_b ?_); conv => whnf)))
        refine draw_i 14 (.take 0 (.take 1 (.take 2 (.take 3 (.take 4 (.take 5 (.take 6 (.take 7 (.take 8 (.take 9 (.take 10 (.take 11 (.take 12 (.take 13 .done)))))))))))))) (by decide +kernel) ?_
        (conv => whnf); (repeat (first | (refine arith_i ⟨by omega, by omega⟩ ?_; conv => whnf) | (refine need_i (by first | omega | (simp only [List.length_append, List.length_cons, List.length_nil]; omega)) ?_; conv => whnf) | ((with_reducible refine branch_tt ?_); conv => whnf) | ((with_reducible refine branch_ff ?_); conv => whnf) | (with_reducible refine branch_not ?_) | ((with_reducible refine slc_e ?_); conv => whnf) | ((with_reducible refine callS_a ?_); conv => whnf) | ((with_reducible refine bld_a ?_); conv => whnf) | ((with_reducible refine own_e ?_); conv => whnf) | ((with_reducible refine mkmap_b ?_); conv => whnf)))
        refine idx_m (by omega) (by omega) fun co hco2 => ?_
        rw [Int.toNat_natCast] at hco2
        have eco := nth_eq hco2
        have q2 := mul_in (a := n.num) (b := co) (A := 10000) (B := 10000) (by omega) (by omega)
        have env : nodeV P n k = n.den * c - n.num * co := by rw [nodeV, ec, eco]
        (conv => whnf); (repeat (first | (refine arith_i ⟨by omega, by omega⟩ ?_; conv => whnf) | (refine need_i (by first | omega | (simp only [List.length_append, List.length_cons, List.length_nil]; omega)) ?_; conv => whnf) | ((with_reducible refine branch_tt ?_); conv => whnf) | ((with_reducible refine branch_ff ?_); conv => whnf) | (with_reducible refine branch_not ?_) | ((with_reducible refine slc_e ?_); conv => whnf) | ((with_reducible refine callS_a ?_); conv => whnf) | ((with_reducible refine bld_a ?_); conv => whnf) | ((with_reducible refine own_e ?_); conv => whnf) | ((with_reducible refine mkmap_b ?_); conv => whnf)))
        refine idx_m (by omega) (by omega) fun sx hsx => ?_
        rw [Int.toNat_natCast] at hsx
        have esx := nth_eq hsx
        have nx := tot_next (P := P) (st := st) (n := n) (k := k)
        rw [esx, env] at nx
        (conv => whnf); (repeat (first | (refine arith_i ⟨by omega, by omega⟩ ?_; conv => whnf) | (refine need_i (by first | omega | (simp only [List.length_append, List.length_cons, List.length_nil]; omega)) ?_; conv => whnf) | ((with_reducible refine branch_tt ?_); conv => whnf) | ((with_reducible refine branch_ff ?_); conv => whnf) | (with_reducible refine branch_not ?_) | ((with_reducible refine slc_e ?_); conv => whnf) | ((with_reducible refine callS_a ?_); conv => whnf) | ((with_reducible refine bld_a ?_); conv => whnf) | ((with_reducible refine own_e ?_); conv => whnf) | ((with_reducible refine mkmap_b ?_); conv => whnf)))
        refine branch_e (fun e1 => ?_) (fun e1 => ?_)
        · rw [contr, if_pos e1] at nx
          (conv => whnf); (repeat (first | (refine arith_i ⟨by omega, by omega⟩ ?_; conv => whnf) | (refine need_i (by first | omega | (simp only [List.length_append, List.length_cons, List.length_nil]; omega)) ?_; conv => whnf) | ((with_reducible refine branch_tt ?_); conv => whnf) | ((with_reducible refine branch_ff ?_); conv => whnf) | (with_reducible refine branch_not ?_) | ((with_reducible refine slc_e ?_); conv => whnf) | ((with_reducible refine callS_a ?_); conv => whnf) | ((with_reducible refine bld_a ?_); conv => whnf) | ((with_reducible refine own_e ?_); conv => whnf) | ((with_reducible refine mkmap_b ?_); conv => whnf)))
          exact ⟨k + 1, by omega, le_mk ⟨rfl, rfl, rfl, rfl, int_eq (by rw [nx]), rfl, rfl, rfl, trivial⟩ ⟨rfl, rfl, rfl, trivial⟩ rfl, by omega⟩
        · rw [contr, if_neg e1] at nx
          (conv => whnf); (repeat (first | (refine arith_i ⟨by omega, by omega⟩ ?_; conv => whnf) | (refine need_i (by first | omega | (simp only [List.length_append, List.length_cons, List.length_nil]; omega)) ?_; conv => whnf) | ((with_reducible refine branch_tt ?_); conv => whnf) | ((with_reducible refine branch_ff ?_); conv => whnf) | (with_reducible refine branch_not ?_) | ((with_reducible refine slc_e ?_); conv => whnf) | ((with_reducible refine callS_a ?_); conv => whnf) | ((with_reducible refine bld_a ?_); conv => whnf) | ((with_reducible refine own_e ?_); conv => whnf) | ((with_reducible refine mkmap_b ?_); conv => whnf)))
          refine branch_e (fun e2 => ?_) (fun e2 => ?_)
          · rw [if_pos e2] at nx
            (conv => whnf); (repeat (first | (refine arith_i ⟨by omega, by omega⟩ ?_; conv => whnf) | (refine need_i (by first | omega | (simp only [List.length_append, List.length_cons, List.length_nil]; omega)) ?_; conv => whnf) | ((with_reducible refine branch_tt ?_); conv => whnf) | ((with_reducible refine branch_ff ?_); conv => whnf) | (with_reducible refine branch_not ?_) | ((with_reducible refine slc_e ?_); conv => whnf) | ((with_reducible refine callS_a ?_); conv => whnf) | ((with_reducible refine bld_a ?_); conv => whnf) | ((with_reducible refine own_e ?_); conv => whnf) | ((with_reducible refine mkmap_b ?_); conv => whnf)))
            exact ⟨k + 1, by omega, le_mk ⟨rfl, rfl, rfl, rfl, int_eq (by rw [nx, min_if]), rfl, rfl, rfl, trivial⟩ ⟨rfl, rfl, rfl, trivial⟩ rfl, by omega⟩
          · rw [if_neg e2, Int.add_zero] at nx
            (conv => whnf); (repeat (first | (refine arith_i ⟨by omega, by omega⟩ ?_; conv => whnf) | (refine need_i (by first | omega | (simp only [List.length_append, List.length_cons, List.length_nil]; omega)) ?_; conv => whnf) | ((with_reducible refine branch_tt ?_); conv => whnf) | ((with_reducible refine branch_ff ?_); conv => whnf) | (with_reducible refine branch_not ?_) | ((with_reducible refine slc_e ?_); conv => whnf) | ((with_reducible refine callS_a ?_); conv => whnf) | ((with_reducible refine bld_a ?_); conv => whnf) | ((with_reducible refine own_e ?_); conv => whnf) | ((with_reducible refine mkmap_b ?_); conv => whnf)))
            exact ⟨k + 1, by omega, le_mk ⟨rfl, rfl, rfl, rfl, int_eq (by rw [nx]), rfl, rfl, rfl, trivial⟩ ⟨rfl, rfl, rfl, trivial⟩ rfl, by omega⟩
      · have hkn : k = P.costs.length := by omega
        subst hkn
        (conv => whnf); (repeat (first | (refine arith_i ⟨by omega, by omega⟩ ?_; conv => whnf) | (refine need_i (by first | omega | (simp only [List.length_append, List.length_cons, List.length_nil]; omega)) ?_; conv => whnf) | ((with_reducible refine branch_tt ?_); conv => whnf) | ((with_reducible refine branch_ff ?_); conv => whnf) | (with_reducible refine branch_not ?_) | ((with_reducible refine slc_e ?_); conv => whnf) | ((with_reducible refine callS_a ?_); conv => whnf) | ((with_reducible refine bld_a ?_); conv => whnf) | ((with_reducible refine own_e ?_); conv => whnf) | ((with_reducible refine mkmap_b ?_); conv => whnf)))
        refine call_e (ceil_ok (totF P st n P.costs.length) n.den (by omega) hd (by have := tdiv_in (a := totF P st n P.costs.length) hd.1; omega)) ?_
        (conv => whnf); (repeat (first | (refine arith_i ⟨by omega, by omega⟩ ?_; conv => whnf) | (refine need_i (by first | omega | (simp only [List.length_append, List.length_cons, List.length_nil]; omega)) ?_; conv => whnf) | ((with_reducible refine branch_tt ?_); conv => whnf) | ((with_reducible refine branch_ff ?_); conv => whnf) | (with_reducible refine branch_not ?_) | ((with_reducible refine slc_e ?_); conv => whnf) | ((with_reducible refine callS_a ?_); conv => whnf) | ((with_reducible refine bld_a ?_); conv => whnf) | ((with_reducible refine own_e ?_); conv => whnf) | ((with_reducible refine mkmap_b ?_); conv => whnf)))
        exact ret_p rfl rfl
end Go.Proofs.Ytengafkfgcdpeaa
end

/- Layer 9 by the interpreter: Bound. -/
section
namespace Go.Proofs.Ytengafkfgcdpeaa
set_option linter.unusedVariables false
set_option linter.unusedSimpArgs false
set_option linter.unnecessarySimpa false
set_option linter.unusedSectionVars false
set_option maxRecDepth 10000
open Go.RowKit

def okB (P : Prog) (st : List Int) (n : Nd) : Bool := validB P && stOB st P.costs.length && bndB P.rows.length n
def boundV (P : Prog) (st : List Int) (n : Nd) : AV := .tup [.int .i64 (if okB P st n = true then boundF P st n else 0), .bool (okB P st n)]
theorem bound_ok (P : Prog) (st : List Int) (n : Nd) (hP : Fits P) (hl : st.length ≤ 1000000) : Good Try.prog TT false 95 [progV P, ints st, .agg (encN n)] (· = boundV P st n) := by
  have L1 : (P.costs.map encI).length = P.costs.length := List.length_map ..
  have bad : okB P st n = false → aret (.tup [.int .i64 0, .bool false]) (· = boundV P st n) := fun h =>
    ret_t (rs := [.int .i64 0, .bool false]) ⟨(rc_p rfl).g, (rc_p rfl).g, trivial⟩ (by rw [boundV, h]; rfl)
  refine good_of mixed tabOk Try.func95 rfl rfl Try.ntmps95 Try.results95 rfl rfl ?_
  (conv => whnf); (repeat (first | (refine arith_i ⟨by omega, by omega⟩ ?_; conv => whnf) | (refine need_i (by first | omega | (simp only [List.length_append, List.length_cons, List.length_nil]; omega)) ?_; conv => whnf) | ((with_reducible refine branch_tt ?_); conv => whnf) | ((with_reducible refine branch_ff ?_); conv => whnf) | (with_reducible refine branch_not ?_) | ((with_reducible refine slc_e ?_); conv => whnf) | ((with_reducible refine callS_a ?_); conv => whnf) | ((with_reducible refine bld_a ?_); conv => whnf) | ((with_reducible refine own_e ?_); conv => whnf) | ((with_reducible refine mkmap_b ?_); conv => whnf)))
  refine call_e (valid_ok P hP.1 hP.2.1 hP.2.2) ?_
  (conv => whnf); (repeat (first | (refine arith_i ⟨by omega, by omega⟩ ?_; conv => whnf) | (refine need_i (by first | omega | (simp only [List.length_append, List.length_cons, List.length_nil]; omega)) ?_; conv => whnf) | ((with_reducible refine branch_tt ?_); conv => whnf) | ((with_reducible refine branch_ff ?_); conv => whnf) | (with_reducible refine branch_not ?_) | ((with_reducible refine slc_e ?_); conv => whnf) | ((with_reducible refine callS_a ?_); conv => whnf) | ((with_reducible refine bld_a ?_); conv => whnf) | ((with_reducible refine own_e ?_); conv => whnf) | ((with_reducible refine mkmap_b ?_); conv => whnf)))
  refine branch_i (fun hv => ?_) (fun hv => ?_)
  · (conv => whnf); (repeat (first | (refine arith_i ⟨by omega, by omega⟩ ?_; conv => whnf) | (refine need_i (by first | omega | (simp only [List.length_append, List.length_cons, List.length_nil]; omega)) ?_; conv => whnf) | ((with_reducible refine branch_tt ?_); conv => whnf) | ((with_reducible refine branch_ff ?_); conv => whnf) | (with_reducible refine branch_not ?_) | ((with_reducible refine slc_e ?_); conv => whnf) | ((with_reducible refine callS_a ?_); conv => whnf) | ((with_reducible refine bld_a ?_); conv => whnf) | ((with_reducible refine own_e ?_); conv => whnf) | ((with_reducible refine mkmap_b ?_); conv => whnf)))
    have hG : Good Try.prog TT false 116 [ints st, .int .i64 (P.costs.map encI).length] (· = .bool (stOB st P.costs.length)) := by rw [L1]; exact oState_ok st P.costs.length hl
    refine call_e hG ?_
    (conv => whnf); (repeat (first | (refine arith_i ⟨by omega, by omega⟩ ?_; conv => whnf) | (refine need_i (by first | omega | (simp only [List.length_append, List.length_cons, List.length_nil]; omega)) ?_; conv => whnf) | ((with_reducible refine branch_tt ?_); conv => whnf) | ((with_reducible refine branch_ff ?_); conv => whnf) | (with_reducible refine branch_not ?_) | ((with_reducible refine slc_e ?_); conv => whnf) | ((with_reducible refine callS_a ?_); conv => whnf) | ((with_reducible refine bld_a ?_); conv => whnf) | ((with_reducible refine own_e ?_); conv => whnf) | ((with_reducible refine mkmap_b ?_); conv => whnf)))
    refine branch_i (fun hs => ?_) (fun hs => ?_)
    · (conv => whnf); (repeat (first | (refine arith_i ⟨by omega, by omega⟩ ?_; conv => whnf) | (refine need_i (by first | omega | (simp only [List.length_append, List.length_cons, List.length_nil]; omega)) ?_; conv => whnf) | ((with_reducible refine branch_tt ?_); conv => whnf) | ((with_reducible refine branch_ff ?_); conv => whnf) | (with_reducible refine branch_not ?_) | ((with_reducible refine slc_e ?_); conv => whnf) | ((with_reducible refine callS_a ?_); conv => whnf) | ((with_reducible refine bld_a ?_); conv => whnf) | ((with_reducible refine own_e ?_); conv => whnf) | ((with_reducible refine mkmap_b ?_); conv => whnf)))
      refine call_e (oBound_ok P n) ?_
      (conv => whnf); (repeat (first | (refine arith_i ⟨by omega, by omega⟩ ?_; conv => whnf) | (refine need_i (by first | omega | (simp only [List.length_append, List.length_cons, List.length_nil]; omega)) ?_; conv => whnf) | ((with_reducible refine branch_tt ?_); conv => whnf) | ((with_reducible refine branch_ff ?_); conv => whnf) | (with_reducible refine branch_not ?_) | ((with_reducible refine slc_e ?_); conv => whnf) | ((with_reducible refine callS_a ?_); conv => whnf) | ((with_reducible refine bld_a ?_); conv => whnf) | ((with_reducible refine own_e ?_); conv => whnf) | ((with_reducible refine mkmap_b ?_); conv => whnf)))
      refine branch_i (fun hb => ?_) (fun hb => ?_)
      · (conv => whnf); (repeat (first | (refine arith_i ⟨by omega, by omega⟩ ?_; conv => whnf) | (refine need_i (by first | omega | (simp only [List.length_append, List.length_cons, List.length_nil]; omega)) ?_; conv => whnf) | ((with_reducible refine branch_tt ?_); conv => whnf) | ((with_reducible refine branch_ff ?_); conv => whnf) | (with_reducible refine branch_not ?_) | ((with_reducible refine slc_e ?_); conv => whnf) | ((with_reducible refine callS_a ?_); conv => whnf) | ((with_reducible refine bld_a ?_); conv => whnf) | ((with_reducible refine own_e ?_); conv => whnf) | ((with_reducible refine mkmap_b ?_); conv => whnf)))
        have hlen : st.length = P.costs.length := by
          simp only [stOB, Bool.and_eq_true, decide_eq_true_eq] at hs
          omega
        refine call_e (boundOf_ok P st n hv hlen hb) ?_
        (conv => whnf); (repeat (first | (refine arith_i ⟨by omega, by omega⟩ ?_; conv => whnf) | (refine need_i (by first | omega | (simp only [List.length_append, List.length_cons, List.length_nil]; omega)) ?_; conv => whnf) | ((with_reducible refine branch_tt ?_); conv => whnf) | ((with_reducible refine branch_ff ?_); conv => whnf) | (with_reducible refine branch_not ?_) | ((with_reducible refine slc_e ?_); conv => whnf) | ((with_reducible refine callS_a ?_); conv => whnf) | ((with_reducible refine bld_a ?_); conv => whnf) | ((with_reducible refine own_e ?_); conv => whnf) | ((with_reducible refine mkmap_b ?_); conv => whnf)))
        have ho : okB P st n = true := by simp [okB, hv, hs, hb]
        exact ret_t (rs := [.int .i64 (boundF P st n), .bool true]) ⟨(rc_p rfl).g, (rc_p rfl).g, trivial⟩ (by rw [boundV, ho]; rfl)
      · (conv => whnf); (repeat (first | (refine arith_i ⟨by omega, by omega⟩ ?_; conv => whnf) | (refine need_i (by first | omega | (simp only [List.length_append, List.length_cons, List.length_nil]; omega)) ?_; conv => whnf) | ((with_reducible refine branch_tt ?_); conv => whnf) | ((with_reducible refine branch_ff ?_); conv => whnf) | (with_reducible refine branch_not ?_) | ((with_reducible refine slc_e ?_); conv => whnf) | ((with_reducible refine callS_a ?_); conv => whnf) | ((with_reducible refine bld_a ?_); conv => whnf) | ((with_reducible refine own_e ?_); conv => whnf) | ((with_reducible refine mkmap_b ?_); conv => whnf)))
        exact bad (by simp [okB, hb])
    · (conv => whnf); (repeat (first | (refine arith_i ⟨by omega, by omega⟩ ?_; conv => whnf) | (refine need_i (by first | omega | (simp only [List.length_append, List.length_cons, List.length_nil]; omega)) ?_; conv => whnf) | ((with_reducible refine branch_tt ?_); conv => whnf) | ((with_reducible refine branch_ff ?_); conv => whnf) | (with_reducible refine branch_not ?_) | ((with_reducible refine slc_e ?_); conv => whnf) | ((with_reducible refine callS_a ?_); conv => whnf) | ((with_reducible refine bld_a ?_); conv => whnf) | ((with_reducible refine own_e ?_); conv => whnf) | ((with_reducible refine mkmap_b ?_); conv => whnf)))
      exact bad (by simp [okB, hs])
  · (conv => whnf); (repeat (first | (refine arith_i ⟨by omega, by omega⟩ ?_; conv => whnf) | (refine need_i (by first | omega | (simp only [List.length_append, List.length_cons, List.length_nil]; omega)) ?_; conv => whnf) | ((with_reducible refine branch_tt ?_); conv => whnf) | ((with_reducible refine branch_ff ?_); conv => whnf) | (with_reducible refine branch_not ?_) | ((with_reducible refine slc_e ?_); conv => whnf) | ((with_reducible refine callS_a ?_); conv => whnf) | ((with_reducible refine bld_a ?_); conv => whnf) | ((with_reducible refine own_e ?_); conv => whnf) | ((with_reducible refine mkmap_b ?_); conv => whnf)))
    exact bad (by simp [okB, hv])
end Go.Proofs.Ytengafkfgcdpeaa
end

/- Layer 10, plain: the choices in ascending order, the cheapest one. No program in sight. -/
section
namespace Go.Proofs.Ytengafkfgcdpeaa
set_option linter.unusedVariables false
set_option linter.unusedSimpArgs false
set_option linter.unnecessarySimpa false
set_option linter.unusedSectionVars false

/-- Whether a choice meets all rows. -/
def metB (P : Prog) (ch : List Int) : Bool := P.rows.all (meetB ch)
def here (P : Prog) (ch : List Int) : List (List Int) := if metB P ch then [ch] else []
/-- The choices that begin with ch and go on with options from a number on, m of them at most; ascending. -/
def loopF (P : Prog) : Nat → List Int → Nat → List (List Int)
  | 0, _, _ => []
  | m + 1, ch, i => here P (ch ++ [(i : Int)]) ++ loopF P m (ch ++ [(i : Int)]) (i + 1) ++ loopF P m ch (i + 1)
def visF (P : Prog) (ch : List Int) (i : Nat) : List (List Int) := here P ch ++ loopF P (P.costs.length - i) ch i
/-- All choices that meet the rows. -/
def allF (P : Prog) : List (List Int) := visF P [] 0
/-- The cheapest so far: found, cost, choice. -/
def bestS (P : Prog) (σ : Bool × Int × List Int) (ch : List Int) : Bool × Int × List Int :=
  if σ.1 = false ∨ sumOf P.costs ch < σ.2.1 then (true, sumOf P.costs ch, ch) else σ
def bestF (P : Prog) : Bool × Int × List Int := (allF P).foldl (bestS P) (false, 0, [])

/-- Ascending options within bounds. -/
def Asc (lo hi : Nat) (ch : List Int) : Prop := ch.Pairwise (· < ·) ∧ ∀ x ∈ ch, (lo : Int) ≤ x ∧ x < hi
theorem asc_choice {n : Nat} {ch : List Int} (h : Asc 0 n ch) : choiceB ch n = true := choice_of_asc h.1 fun x hx => by have := h.2 x hx; omega
theorem Asc.snoc {i n : Nat} {ch : List Int} (h : Asc 0 i ch) (hi : i < n) : Asc 0 (i + 1) (ch ++ [(i : Int)]) := by
  refine ⟨List.pairwise_append.2 ⟨h.1, List.pairwise_singleton _ _, fun x hx y hy => ?_⟩, fun x hx => ?_⟩
  · rw [List.mem_singleton.1 hy]; exact (h.2 x hx).2
  · rcases List.mem_append.1 hx with hx | hx
    · have := h.2 x hx; omega
    · rw [List.mem_singleton.1 hx]; omega
theorem Asc.mono {lo hi hi' : Nat} {ch : List Int} (h : Asc lo hi ch) (hh : hi ≤ hi') : Asc lo hi' ch := ⟨h.1, fun x hx => by have := h.2 x hx; omega⟩
/-- What is in the list. -/
theorem loop_mem {P : Prog} {c : List Int} : ∀ {m : Nat} {ch : List Int} {i : Nat}, c ∈ loopF P m ch i ↔ ∃ t, t ≠ [] ∧ Asc i (i + m) t ∧ c = ch ++ t ∧ metB P c = true
  | 0, ch, i => by
    simp only [loopF, List.not_mem_nil, false_iff]
    rintro ⟨t, h0, h1, -, -⟩
    cases t with
    | nil => exact h0 rfl
    | cons x t => have := h1.2 x (by simp); omega
  | m + 1, ch, i => by
    simp only [loopF, List.mem_append, loop_mem (m := m)]
    constructor
    · rintro ((h | ⟨t, h0, h1, h2, h3⟩) | ⟨t, h0, h1, h2, h3⟩)
      · simp only [here] at h
        split at h
        · next hm =>
          rw [List.mem_singleton.1 h]
          exact ⟨[(i : Int)], by simp, ⟨List.pairwise_singleton _ _, fun x hx => by rw [List.mem_singleton.1 hx]; omega⟩, rfl, hm⟩
        · simp at h
      · refine ⟨(i : Int) :: t, by simp, ⟨List.pairwise_cons.2 ⟨fun x hx => by have := h1.2 x hx; omega, h1.1⟩, fun x hx => ?_⟩, by rw [h2]; simp, h3⟩
        rcases List.mem_cons.1 hx with rfl | hx
        · omega
        · have := h1.2 x hx; omega
      · exact ⟨t, h0, ⟨h1.1, fun x hx => by have := h1.2 x hx; omega⟩, h2, h3⟩
    · rintro ⟨t, h0, h1, h2, h3⟩
      cases t with
      | nil => exact absurd rfl h0
      | cons x t =>
        have hx := h1.2 x (by simp)
        have hp := List.pairwise_cons.1 h1.1
        by_cases e : x = i
        · subst e
          left
          by_cases ht : t = []
          · subst ht
            left
            simp only [here]
            rw [h2] at h3
            rw [if_pos h3, h2]
            simp
          · right
            exact ⟨t, ht, ⟨hp.2, fun y hy => by have := hp.1 y hy; have := h1.2 y (by simp [hy]); omega⟩, by rw [h2]; simp, h3⟩
        · right
          exact ⟨x :: t, by simp, ⟨h1.1, fun y hy => by
            have h4 := h1.2 y hy
            rcases List.mem_cons.1 hy with rfl | hy
            · omega
            · have := hp.1 y hy; omega⟩, h2, h3⟩
theorem all_mem {P : Prog} {c : List Int} : c ∈ allF P ↔ Asc 0 P.costs.length c ∧ metB P c = true := by
  simp only [allF, visF, List.mem_append, loop_mem, here]
  constructor
  · rintro (h | ⟨t, h0, h1, h2, h3⟩)
    · split at h
      · next hm => rw [List.mem_singleton.1 h]; exact ⟨⟨List.Pairwise.nil, by simp⟩, hm⟩
      · simp at h
    · rw [List.nil_append] at h2
      subst h2
      exact ⟨⟨h1.1, fun x hx => by have := h1.2 x hx; omega⟩, h3⟩
  · rintro ⟨h1, h2⟩
    by_cases hc : c = []
    · subst hc; left; rw [if_pos h2]; simp
    · right
      exact ⟨c, hc, ⟨h1.1, fun x hx => by have := h1.2 x hx; omega⟩, by simp, h2⟩
theorem meets_asc {P : Prog} {c : List Int} (hv : validB P = true) (h : Asc 0 P.costs.length c) : meetsB P c = metB P c := by
  simp only [meetsB, hv, asc_choice h, Bool.true_and, metB]
theorem all_meets {P : Prog} {c : List Int} (hv : validB P = true) (h : c ∈ allF P) : meetsB P c = true ∧ costF P c = sumOf P.costs c ∧ Asc 0 P.costs.length c := by
  obtain ⟨h1, h2⟩ := all_mem.1 h
  exact ⟨by rw [meets_asc hv h1]; exact h2, by rw [costF, if_pos]; simp [costOk, hv, asc_choice h1], h1⟩
/-! in ascending order -/
def befB : List Int → List Int → Bool
  | x :: a, y :: b => if x = y then befB a b else decide (x < y)
  | [], _ :: _ => true
  | _, [] => false
theorem bef_pre (p a b : List Int) : befB (p ++ a) (p ++ b) = befB a b := by
  induction p with
  | nil => rfl
  | cons x p ih => simp only [List.cons_append, befB, if_pos, ih]
theorem loop_sorted {P : Prog} : ∀ {m : Nat} {ch : List Int} {i : Nat}, (loopF P m ch i).Pairwise (fun a b => befB a b = true)
  | 0, ch, i => by simp [loopF]
  | m + 1, ch, i => by
    simp only [loopF]
    refine List.pairwise_append.2 ⟨List.pairwise_append.2 ⟨?_, loop_sorted, fun a ha b hb => ?_⟩, loop_sorted, fun a ha b hb => ?_⟩
    · simp only [here]; split <;> simp
    · simp only [here] at ha
      split at ha
      · rw [List.mem_singleton.1 ha]
        obtain ⟨t, h0, h1, h2, h3⟩ := loop_mem.1 hb
        subst h2
        have := bef_pre (ch ++ [(i : Int)]) [] t
        rw [List.append_nil] at this
        rw [this]
        cases t with
        | nil => exact absurd rfl h0
        | cons x t => rfl
      · simp at ha
    · obtain ⟨t, h0, h1, h2, h3⟩ := loop_mem.1 hb
      subst h2
      have hx : ∃ s, a = ch ++ ((i : Int) :: s) := by
        rcases List.mem_append.1 ha with ha | ha
        · simp only [here] at ha
          split at ha
          · rw [List.mem_singleton.1 ha]; exact ⟨[], rfl⟩
          · simp at ha
        · obtain ⟨s, _, _, h, _⟩ := loop_mem.1 ha
          exact ⟨s, by rw [h]; simp⟩
      obtain ⟨s, rfl⟩ := hx
      rw [bef_pre]
      cases t with
      | nil => exact absurd rfl h0
      | cons x t =>
        have := h1.2 x (by simp)
        simp only [befB]
        rw [if_neg (by omega)]
        simp; omega
theorem all_sorted {P : Prog} : (allF P).Pairwise (fun a b => befB a b = true) := by
  simp only [allF, visF]
  refine List.pairwise_append.2 ⟨by simp only [here]; split <;> simp, loop_sorted, fun a ha b hb => ?_⟩
  simp only [here] at ha
  split at ha
  · rw [List.mem_singleton.1 ha]
    obtain ⟨t, h0, h1, h2, h3⟩ := loop_mem.1 hb
    rw [List.nil_append] at h2
    rw [h2]
    cases t with
    | nil => exact absurd rfl h0
    | cons x t => rfl
  · simp at ha
theorem bef_asymm : ∀ {a b : List Int}, befB a b = true → befB b a = false
  | [], [], h => by cases h
  | [], _ :: _, _ => rfl
  | _ :: _, [], h => by cases h
  | x :: a, y :: b, h => by
    simp only [befB] at h ⊢
    by_cases e : x = y
    · subst e; simp only [if_true] at h ⊢; exact bef_asymm h
    · rw [if_neg e] at h
      rw [if_neg (Ne.symm e)]
      simp at h ⊢; omega
/-! the cheapest -/
structure BestIs (P : Prog) (l : List (List Int)) (σ : Bool × Int × List Int) : Prop where
  none : σ.1 = false → l = [] ∧ σ = (false, 0, [])
  mem : σ.1 = true → σ.2.2 ∈ l ∧ σ.2.1 = sumOf P.costs σ.2.2
  least : σ.1 = true → ∀ c ∈ l, σ.2.1 ≤ sumOf P.costs c
  first : σ.1 = true → ∃ l1 l2, l = l1 ++ σ.2.2 :: l2 ∧ ∀ c ∈ l1, σ.2.1 < sumOf P.costs c
theorem best_step {P : Prog} {l : List (List Int)} {σ : Bool × Int × List Int} (h : BestIs P l σ) (c : List Int) : BestIs P (l ++ [c]) (bestS P σ c) := by
  unfold bestS
  by_cases hs : σ.1 = false
  · rw [if_pos (.inl hs)]
    obtain ⟨rfl, -⟩ := h.none hs
    exact ⟨nofun, fun _ => ⟨by simp, rfl⟩, fun _ x hx => by simp at hx; subst hx; exact Int.le_refl _, fun _ => ⟨[], [], rfl, by simp⟩⟩
  · have ht : σ.1 = true := by simpa using hs
    by_cases hc : sumOf P.costs c < σ.2.1
    · rw [if_pos (.inr hc)]
      refine ⟨nofun, fun _ => ⟨by simp, rfl⟩, fun _ x hx => ?_, fun _ => ⟨l, [], rfl, fun x hx => ?_⟩⟩
      · rcases List.mem_append.1 hx with hx | hx
        · have := h.least ht x hx; show sumOf P.costs c ≤ _; omega
        · rw [List.mem_singleton.1 hx]; exact Int.le_refl _
      · have := h.least ht x hx; show sumOf P.costs c < _; omega
    · rw [if_neg (by simp [hs, hc])]
      refine ⟨fun e => absurd e hs, fun _ => ⟨by simp [(h.mem ht).1], (h.mem ht).2⟩, fun _ x hx => ?_, fun _ => ?_⟩
      · rcases List.mem_append.1 hx with hx | hx
        · exact h.least ht x hx
        · rw [List.mem_singleton.1 hx]; omega
      · obtain ⟨l1, l2, h1, h2⟩ := h.first ht
        exact ⟨l1, l2 ++ [c], by rw [h1]; simp, h2⟩
theorem best_fold {P : Prog} : ∀ (l2 l1 : List (List Int)) (σ : Bool × Int × List Int), BestIs P l1 σ → BestIs P (l1 ++ l2) (l2.foldl (bestS P) σ)
  | [], l1, σ, h => by simpa using h
  | c :: l2, l1, σ, h => by
    have := best_fold l2 (l1 ++ [c]) _ (best_step h c)
    simpa using this
theorem best_is (P : Prog) : BestIs P (allF P) (bestF P) := by
  have := best_fold (P := P) (allF P) [] (false, 0, []) ⟨fun _ => ⟨rfl, rfl⟩, nofun, nofun, nofun⟩
  simpa [bestF] using this
end Go.Proofs.Ytengafkfgcdpeaa
end

/- Layer 10: the closures of 'each' that add a row's coefficients and look at the sums. -/
section
namespace Go.Proofs.Ytengafkfgcdpeaa
set_option linter.unusedVariables false
set_option linter.unusedSimpArgs false
set_option linter.unnecessarySimpa false
set_option linter.unusedSectionVars false
set_option maxRecDepth 10000
open Go.RowKit
def plGL10a_0 : Plan := (.take 0 (.take 1 (.take 2 (.take 3 (.take 4 (.take 5 (.take 6 (.take 7 (.take 8 (.take 9 (.take 10 (.take 11 (.take 12 (.take 13 (.take 14 (.take 15 .done))))))))))))))))
def plGL10a_1 : Plan := (.take 0 (.take 1 (.take 2 (.take 4 (.take 5 (.alt 3 (.take 6 (.take 7 (.take 9 (.take 12 (.alt 8 (.take 10 (.alt 11 (.alt 13 (.take 14 (.take 15 .done)) .stop) (.alt 13 (.alt 11 (.take 14 (.take 15 .done)) .stop) .stop))) (.alt 13 (.alt 8 (.take 10 (.alt 11 (.take 14 (.take 15 .done)) .stop)) .stop) .stop)))))) .stop))))))
def plGL10a_2 : Plan := (.take 1 (.take 4 (.alt 0 (.take 2 (.alt 3 (.alt 5 (.take 6 (.take 7 (.take 9 (.take 12 (.alt 8 (.take 10 (.alt 11 (.alt 13 (.take 14 (.take 15 .done)) .stop) (.alt 13 (.alt 11 (.take 14 (.take 15 .done)) .stop) .stop))) (.alt 13 (.alt 8 (.take 10 (.alt 11 (.take 14 (.take 15 .done)) .stop)) .stop) .stop)))))) .stop) (.alt 5 (.alt 3 (.take 6 (.take 7 (.take 9 (.take 12 (.alt 8 (.take 10 (.alt 11 (.alt 13 (.take 14 (.take 15 .done)) .stop) (.alt 13 (.alt 11 (.take 14 (.take 15 .done)) .stop) .stop))) (.alt 13 (.alt 8 (.take 10 (.alt 11 (.take 14 (.take 15 .done)) .stop)) .stop) .stop)))))) .stop) .stop))) (.alt 5 (.alt 0 (.take 2 (.alt 3 (.take 6 (.take 7 (.take 9 (.take 12 (.alt 8 (.take 10 (.alt 11 (.alt 13 (.take 14 (.take 15 .done)) .stop) (.alt 13 (.alt 11 (.take 14 (.take 15 .done)) .stop) .stop))) (.alt 13 (.alt 8 (.take 10 (.alt 11 (.take 14 (.take 15 .done)) .stop)) .stop) .stop)))))) .stop)) .stop) .stop))))
def plGL10a_3 : Plan := (.take 0 (.take 1 (.take 2 (.take 3 (.take 4 (.take 5 (.take 6 (.take 7 (.take 8 (.take 9 (.take 10 (.take 11 (.take 12 (.altE 13 .done .stop))))))))))))))
def plGL10a_4 : Plan := (.take 0 (.take 1 (.take 2 (.take 4 (.take 5 (.take 6 (.take 7 (.take 8 (.alt 3 (.alt 9 (.take 10 (.take 11 (.take 12 (.altE 13 .done .stop)))) .stop) (.alt 9 (.take 10 (.alt 3 (.take 11 (.take 12 (.altE 13 .done .stop))) .stop)) .stop))))))))))
def plGL10a_5 : Plan := (.take 1 (.take 4 (.take 5 (.take 7 (.alt 0 (.take 2 (.alt 3 (.alt 6 (.take 8 (.alt 9 (.take 10 (.take 11 (.take 12 (.alt 13 .done .stop)))) .stop)) .stop) (.alt 6 (.take 8 (.alt 3 (.alt 9 (.take 10 (.take 11 (.take 12 (.alt 13 .done .stop)))) .stop) (.alt 9 (.take 10 (.alt 3 (.take 11 (.take 12 (.alt 13 .done .stop))) .stop)) .stop))) .stop))) (.alt 6 (.take 8 (.alt 0 (.take 2 (.alt 3 (.alt 9 (.take 10 (.take 11 (.take 12 (.alt 13 .done .stop)))) .stop) (.alt 9 (.take 10 (.alt 3 (.take 11 (.take 12 (.alt 13 .done .stop))) .stop)) .stop))) (.alt 9 (.take 10 (.alt 0 (.take 2 (.alt 3 (.take 11 (.take 12 (.alt 13 .done .stop))) .stop)) .stop)) .stop))) .stop))))))
def sumsOkB (rows : List Row) (xs : List Int) : Bool := (List.range rows.length).all fun k => decide ((rowAt rows k).least ≤ nth xs k) && decide (nth xs k ≤ (rowAt rows k).most)
theorem sumsOk_bad {rows : List Row} {xs : List Int} {k : Nat} (hk : k < rows.length) (h : ¬ ((rowAt rows k).least ≤ nth xs k ∧ nth xs k ≤ (rowAt rows k).most)) : sumsOkB rows xs = false := by
  rw [← Bool.not_eq_true, sumsOkB, List.all_eq_true]
  intro hh
  have := hh k (List.mem_range.2 hk)
  simp only [Bool.and_eq_true, decide_eq_true_eq] at this
  exact h this
theorem sumsOk_good {rows : List Row} {xs : List Int} (h : ∀ k, k < rows.length → (rowAt rows k).least ≤ nth xs k ∧ nth xs k ≤ (rowAt rows k).most) : sumsOkB rows xs = true := by
  rw [sumsOkB, List.all_eq_true]
  intro k hk
  simp only [Bool.and_eq_true, decide_eq_true_eq]
  exact h k (List.mem_range.1 hk)
set_option maxHeartbeats 2000000 in
theorem met_ok (P : Prog) (xs : List Int) (hl : xs.length = P.rows.length) (hr : P.rows.length ≤ 60) : Good Try.prog TT false 90 [.ref [ints P.costs, rowsV P.rows], .ref [ints xs]] (· = .bool (sumsOkB P.rows xs)) := by
  have LR : (P.rows.map encRow).length = P.rows.length := List.length_map ..
  have LX : (xs.map encI).length = xs.length := List.length_map ..
  refine good_of mixed tabOk Try.func90 rfl rfl Try.ntmps90 Try.results90 rfl rfl ?_
  (conv => whnf); (repeat' (first | (refine arith_i ⟨by omega, by omega⟩ ?_; conv => whnf) | (refine arith_u ⟨by omega, by omega⟩ ?_; conv => whnf) | (refine arith_8 ⟨by omega, by omega⟩ ?_; conv => whnf) | (refine need_i (by first | omega | (simp only [List.length_cons, List.length_nil]; omega) | (simp only [List.length_append, List.length_cons, List.length_nil, List.length_map, List.length_replicate, List.length_modify]; omega)) ?_; conv => whnf) | ((with_reducible refine branch_tt ?_); conv => whnf) | ((with_reducible refine branch_ff ?_); conv => whnf) | (with_reducible refine branch_not ?_) | ((with_reducible refine slc_e ?_); conv => whnf) | ((with_reducible refine callS_a ?_); conv => whnf) | ((with_reducible refine bld_a ?_); conv => whnf) | ((with_reducible refine own_e ?_); conv => whnf) | ((with_reducible refine mkmap_b ?_); conv => whnf) | (refine draw_i 16 plGL10a_0 (by decide +kernel) ?_; (conv => whnf); fail_if_success (guard_target =~ False)) | (refine draw_i 16 plGL10a_1 (by decide +kernel) ?_; (conv => whnf); fail_if_success (guard_target =~ False)) | (refine draw_i 16 plGL10a_2 (by decide +kernel) ?_; (conv => whnf); fail_if_success (guard_target =~ False)) | ((with_reducible refine And.intro ?_ ?_) <;> (conv => whnf)) | (with_reducible exact trivial) | ((with_reducible refine branch_d (fun hq => ?_) (fun hq => ?_)) <;> (try (exfalso; omega)) <;> (conv => whnf)) | ((with_reducible refine branch_e (fun hq => ?_) (fun hq => ?_)) <;> (try (exfalso; omega)) <;> (conv => whnf)) | ((with_reducible refine branch_n (fun hq => ?_) (fun hq => ?_)) <;> (try (exfalso; omega)) <;> (conv => whnf)) | ((with_reducible refine branch_i (fun hq => ?_) (fun hq => ?_)) <;> (try (exfalso; omega)) <;> (conv => whnf))))
  refine loop_i (fun k : Nat => k ≤ P.rows.length ∧ ∀ j, j < k → (rowAt P.rows j).least ≤ nth xs j ∧ nth xs j ≤ (rowAt P.rows j).most) (fun k => mkSt [(1, .ref [ints xs]), (6, rowsV P.rows), (7, .int .i64 (P.rows.map encRow).length), (8, .int .i64 k)] [] false) (fun k => P.rows.length - k) 0 ⟨Nat.zero_le _, nofun⟩ (le_mk (by repeat' (first | exact trivial | rfl | apply And.intro)) (by repeat' (first | exact trivial | rfl | apply And.intro)) rfl) ?_
  rintro k ⟨hk, hall⟩
  (conv => whnf); (repeat' (first | (refine arith_i ⟨by omega, by omega⟩ ?_; conv => whnf) | (refine arith_u ⟨by omega, by omega⟩ ?_; conv => whnf) | (refine arith_8 ⟨by omega, by omega⟩ ?_; conv => whnf) | (refine need_i (by first | omega | (simp only [List.length_cons, List.length_nil]; omega) | (simp only [List.length_append, List.length_cons, List.length_nil, List.length_map, List.length_replicate, List.length_modify]; omega)) ?_; conv => whnf) | ((with_reducible refine branch_tt ?_); conv => whnf) | ((with_reducible refine branch_ff ?_); conv => whnf) | (with_reducible refine branch_not ?_) | ((first | refine idx_cs (by assumption) ?_ | (refine idx_c (xs := P.rows) (by omega) fun r hrr => ?_; have hra := rowAt_eq hrr) | (refine idx_c (xs := xs) (by omega) fun x hx => ?_; have hxa := nth_eq hx)); conv => whnf) | ((with_reducible refine slc_e ?_); conv => whnf) | ((with_reducible refine callS_a ?_); conv => whnf) | ((with_reducible refine bld_a ?_); conv => whnf) | ((with_reducible refine own_e ?_); conv => whnf) | ((with_reducible refine mkmap_b ?_); conv => whnf) | (refine draw_i 16 plGL10a_0 (by decide +kernel) ?_; (conv => whnf); fail_if_success (guard_target =~ False)) | (refine draw_i 16 plGL10a_1 (by decide +kernel) ?_; (conv => whnf); fail_if_success (guard_target =~ False)) | (refine draw_i 16 plGL10a_2 (by decide +kernel) ?_; (conv => whnf); fail_if_success (guard_target =~ False)) | ((with_reducible refine And.intro ?_ ?_) <;> (conv => whnf)) | (with_reducible exact trivial) | ((with_reducible refine branch_d (fun hq => ?_) (fun hq => ?_)) <;> (try (exfalso; omega)) <;> (conv => whnf)) | ((with_reducible refine branch_e (fun hq => ?_) (fun hq => ?_)) <;> (try (exfalso; omega)) <;> (conv => whnf)) | ((with_reducible refine branch_n (fun hq => ?_) (fun hq => ?_)) <;> (try (exfalso; omega)) <;> (conv => whnf)) | ((with_reducible refine branch_i (fun hq => ?_) (fun hq => ?_)) <;> (try (exfalso; omega)) <;> (conv => whnf))))
  all_goals first
    | (refine ret_p rfl (bool_eq ?_); symm; exact sumsOk_bad (k := k) (by omega) (by rw [hra, hxa]; omega))
    | (refine ⟨k + 1, ⟨by omega, fun j hj => ?_⟩, (le_mk (by repeat' (first | exact trivial | rfl | apply And.intro)) (by repeat' (first | exact trivial | rfl | apply And.intro)) rfl), by omega⟩
       by_cases e : j = k
       · subst e; rw [hra, hxa]; omega
       · exact hall j (by omega))
    | (refine ret_p rfl (bool_eq ?_); symm; exact sumsOk_good fun j hj => hall j (by omega))
def addF (rows : List Row) (xs : List Int) (o t : Int) : List Int := (List.range xs.length).map fun j => nth xs j + t * nth (rowAt rows j).coefs o.toNat
theorem addF_len {rows : List Row} {xs : List Int} {o t : Int} : (addF rows xs o t).length = xs.length := by simp [addF]
theorem addF_nth {rows : List Row} {xs : List Int} {o t : Int} {j : Nat} (h : j < xs.length) : nth (addF rows xs o t) j = nth xs j + t * nth (rowAt rows j).coefs o.toNat := by
  simp [addF, nth, List.getD_eq_getElem?_getD, h]
set_option maxHeartbeats 2000000 in
theorem add_ok (P : Prog) (xs : List Int) (o t : Int) (hv : validB P = true) (ho : 0 ≤ o ∧ o < P.costs.length) (ht : t = 1 ∨ t = -1) (hx : ∀ j, j < xs.length → -1000000 ≤ nth xs j ∧ nth xs j ≤ 1000000) (hl : xs.length = P.rows.length) : GoodM Try.prog TT false 89 [.int .i64 o, .int .i64 t, .ptr 1000 0, .ptr 1001 0] [(1000, [ints P.costs, rowsV P.rows]), (1001, [.own 1101 3 1 (xs.map encI)])]
    (fun r ov bx => r = .tup [] ∧ ov = [] ∧ bx = [(1000, [ints P.costs, rowsV P.rows]), (1001, [.own 1101 3 1 ((addF P.rows xs o t).map encI)])]) := by
  have LR : (P.rows.map encRow).length = P.rows.length := List.length_map ..
  have hr := (validB_parts hv).2.1
  refine good_of_m (fun _ => false) mixed tabOk Try.func89 rfl rfl Try.ntmps89 Try.results89 rfl rfl ?_
  (conv => whnf); (repeat' (first | (refine arith_i ⟨by omega, by omega⟩ ?_; conv => whnf) | (refine arith_u ⟨by omega, by omega⟩ ?_; conv => whnf) | (refine arith_8 ⟨by omega, by omega⟩ ?_; conv => whnf) | (refine need_i (by first | omega | (simp only [List.length_cons, List.length_nil]; omega) | (simp only [List.length_append, List.length_cons, List.length_nil, List.length_map, List.length_replicate, List.length_modify]; omega)) ?_; conv => whnf) | ((with_reducible refine branch_tt ?_); conv => whnf) | ((with_reducible refine branch_ff ?_); conv => whnf) | (with_reducible refine branch_not ?_) | ((with_reducible refine slc_e ?_); conv => whnf) | ((with_reducible refine callS_a ?_); conv => whnf) | ((with_reducible refine bld_a ?_); conv => whnf) | ((with_reducible refine own_e ?_); conv => whnf) | ((with_reducible refine mkmap_b ?_); conv => whnf) | (refine draw_i 14 plGL10a_3 (by decide +kernel) ?_; (conv => whnf); fail_if_success (guard_target =~ False)) | (refine draw_i 14 plGL10a_4 (by decide +kernel) ?_; (conv => whnf); fail_if_success (guard_target =~ False)) | (refine draw_i 13 plGL10a_5 (by decide +kernel) ?_; (conv => whnf); fail_if_success (guard_target =~ False)) | ((with_reducible refine And.intro ?_ ?_) <;> (conv => whnf)) | (with_reducible exact trivial) | ((with_reducible refine branch_d (fun hq => ?_) (fun hq => ?_)) <;> (try (exfalso; omega)) <;> (conv => whnf)) | ((with_reducible refine branch_e (fun hq => ?_) (fun hq => ?_)) <;> (try (exfalso; omega)) <;> (conv => whnf)) | ((with_reducible refine branch_n (fun hq => ?_) (fun hq => ?_)) <;> (try (exfalso; omega)) <;> (conv => whnf)) | ((with_reducible refine branch_i (fun hq => ?_) (fun hq => ?_)) <;> (try (exfalso; omega)) <;> (conv => whnf))))
  refine loop_i2 (fun (k : Nat) (ys : List Int) => k ≤ P.rows.length ∧ ys.length = xs.length ∧ (∀ j, j < k → nth ys j = nth xs j + t * nth (rowAt P.rows j).coefs o.toNat) ∧ ∀ j, k ≤ j → nth ys j = nth xs j) (fun k ys => mkSt [(0, .int .i64 o), (1, .int .i64 t), (3, .ptr 1001 0), (9, rowsV P.rows), (10, .int .i64 (P.rows.map encRow).length), (11, .int .i64 k)] [(1000, [ints P.costs, rowsV P.rows]), (1001, [.own 1101 3 1 (ys.map encI)])] false) (fun k _ => P.rows.length - k) 0 xs ⟨Nat.zero_le _, rfl, nofun, fun _ _ => rfl⟩ (le_mk (by repeat' (first | exact trivial | rfl | apply And.intro)) (by repeat' (first | exact trivial | rfl | apply And.intro)) rfl) ?_
  rintro k ys ⟨hk, hyl, hd, hn⟩
  have LY : (ys.map encI).length = ys.length := List.length_map ..
  (conv => whnf); (repeat' (first | (refine arith_i ⟨by omega, by omega⟩ ?_; conv => whnf) | (refine arith_u ⟨by omega, by omega⟩ ?_; conv => whnf) | (refine arith_8 ⟨by omega, by omega⟩ ?_; conv => whnf) | (refine need_i (by first | omega | (simp only [List.length_cons, List.length_nil]; omega) | (simp only [List.length_append, List.length_cons, List.length_nil, List.length_map, List.length_replicate, List.length_modify]; omega)) ?_; conv => whnf) | ((with_reducible refine branch_tt ?_); conv => whnf) | ((with_reducible refine branch_ff ?_); conv => whnf) | (with_reducible refine branch_not ?_) | ((first | refine idx_cs (by assumption) ?_ | (refine idx_c (xs := P.rows) (by omega) fun r hrr => ?_; have hra := rowAt_eq hrr; have hvr := valid_rows hv (List.mem_of_getElem? hrr); have LC : (r.coefs.map encI).length = r.coefs.length := List.length_map ..) | (refine idx_c (xs := ys) (by omega) fun y hy => ?_; have hya := nth_eq hy; have hyb := hn k (Nat.le_refl _); have hxb := hx k (by omega)) | (refine idx_m (xs := r.coefs) (by omega) (by omega) fun c hc => ?_; have hca := nth_eq hc; have hcb := hvr.2.1 o.toNat (by omega); have hm : t * c = c ∨ t * c = -c := by {rcases ht with e | e <;> subst e <;> omega})); conv => whnf) | ((with_reducible refine slc_e ?_); conv => whnf) | ((with_reducible refine callS_a ?_); conv => whnf) | ((with_reducible refine bld_a ?_); conv => whnf) | ((with_reducible refine own_e ?_); conv => whnf) | ((with_reducible refine mkmap_b ?_); conv => whnf) | (refine draw_i 14 plGL10a_4 (by decide +kernel) ?_; (conv => whnf); fail_if_success (guard_target =~ False)) | (refine draw_i 13 plGL10a_5 (by decide +kernel) ?_; (conv => whnf); fail_if_success (guard_target =~ False)) | (refine draw_i 14 plGL10a_3 (by decide +kernel) ?_; (conv => whnf); fail_if_success (guard_target =~ False)) | ((with_reducible refine And.intro ?_ ?_) <;> (conv => whnf)) | (with_reducible exact trivial) | ((with_reducible refine branch_d (fun hq => ?_) (fun hq => ?_)) <;> (try (exfalso; omega)) <;> (conv => whnf)) | ((with_reducible refine branch_e (fun hq => ?_) (fun hq => ?_)) <;> (try (exfalso; omega)) <;> (conv => whnf)) | ((with_reducible refine branch_n (fun hq => ?_) (fun hq => ?_)) <;> (try (exfalso; omega)) <;> (conv => whnf)) | ((with_reducible refine branch_i (fun hq => ?_) (fun hq => ?_)) <;> (try (exfalso; omega)) <;> (conv => whnf))))
  all_goals first
    | (obtain rfl : ys = addF P.rows xs o t := nth_ext (by rw [addF_len]; exact hyl) fun j hj => by rw [hd j (by omega), addF_nth (by omega)]
       exact retM_i (.tup []) [] [(1000, [ints P.costs, rowsV P.rows]), (1001, [.own 1101 3 1 ((addF P.rows xs o t).map encI)])] rfl (le_mk (by repeat' (first | exact trivial | rfl | apply And.intro)) (by repeat' (first | exact trivial | rfl | apply And.intro)) rfl) rfl ⟨rfl, rfl, rfl⟩)
    | (refine ⟨k + 1, ys.set k (y + t * c), ⟨by omega, by simp; exact hyl, fun j hj => ?_, fun j hj => ?_⟩, le_mk ⟨rfl, rfl, rfl, rfl, rfl, rfl, trivial⟩ ⟨rfl, by rw [← encI_set]; rfl, trivial⟩ rfl, by omega⟩
       · rw [nth_set]
         by_cases e : j = k
         · subst e
           rw [if_pos ⟨rfl, by omega⟩, hra, hca, ← hya, hyb]
         · rw [if_neg (fun h => e h.1)]; exact hd j (by omega)
       · rw [nth_set, if_neg (fun h => by omega)]; exact hn j (by omega))
end Go.Proofs.Ytengafkfgcdpeaa
end
