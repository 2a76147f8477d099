/- Layer 9 by the interpreter: the bound of a node. -/
import Derived.Test.YtbjbhokkdnhfeaaGL09b
import Derived.Test.YtbjbhokkdnhfeaaPl05
namespace Go.Proofs.Ytbjbhokkdnhfeaa
set_option linter.unusedVariables false
set_option linter.unusedSimpArgs false
set_option linter.unnecessarySimpa false
set_option linter.unusedSectionVars false
set_option maxRecDepth 10000
open Go.RowKit
def plGL09c_0 : Plan := (.take 0 (.take 1 (.take 2 (.take 3 (.take 4 (.take 5 (.take 6 (.take 7 (.take 8 (.take 9 (.take 10 (.take 11 (.take 12 (.take 13 .done))))))))))))))
def plGL09c_1 : Plan := (.take 0 (.take 1 (.take 2 (.take 3 (.take 4 (.take 5 (.take 6 (.take 7 (.take 8 (.take 9 (.alt 10 (.take 11 (.take 12 (.take 13 .done))) .stop)))))))))))
def plGL09c_2 : Plan := (.take 0 (.take 2 (.take 4 (.take 6 (.take 8 (.alt 1 (.take 3 (.alt 5 (.alt 7 (.take 9 (.alt 10 (.take 11 (.take 12 (.take 13 .done))) .stop)) .stop) (.alt 7 (.take 9 (.alt 5 (.alt 10 (.take 11 (.take 12 (.take 13 .done))) .stop) (.alt 10 (.alt 5 (.take 11 (.take 12 (.take 13 .done))) .stop) .stop))) .stop))) (.alt 5 (.alt 1 (.take 3 (.alt 7 (.take 9 (.alt 10 (.take 11 (.take 12 (.take 13 .done))) .stop)) .stop)) (.alt 7 (.take 9 (.alt 1 (.take 3 (.alt 10 (.take 11 (.take 12 (.take 13 .done))) .stop)) (.alt 10 (.take 11 (.alt 1 (.take 3 (.take 12 (.take 13 .done))) .stop)) .stop))) .stop)) (.alt 7 (.take 9 (.alt 1 (.take 3 (.alt 5 (.alt 10 (.take 11 (.take 12 (.take 13 .done))) .stop) (.alt 10 (.alt 5 (.take 11 (.take 12 (.take 13 .done))) .stop) .stop))) (.alt 5 (.alt 1 (.take 3 (.alt 10 (.take 11 (.take 12 (.take 13 .done))) .stop)) (.alt 10 (.take 11 (.alt 1 (.take 3 (.take 12 (.take 13 .done))) .stop)) .stop)) (.alt 10 (.alt 1 (.take 3 (.alt 5 (.take 11 (.take 12 (.take 13 .done))) .stop)) (.alt 5 (.take 11 (.alt 1 (.take 3 (.take 12 (.take 13 .done))) .stop)) .stop)) .stop)))) .stop))))))))

theorem mul_in {a b : Int} {A B : Nat} (ha : -(A : Int) ≤ a ∧ a ≤ A) (hb : -(B : Int) ≤ b ∧ b ≤ B) : -((A * B : Nat) : Int) ≤ a * b ∧ a * b ≤ ((A * B : Nat) : Int) := by
  have h1 : a.natAbs ≤ A := by omega
  have h2 : b.natAbs ≤ B := by omega
  have h3 := Nat.mul_le_mul h1 h2
  rw [← Int.natAbs_mul] at h3
  omega
def rowOf (P : Prog) (n : Nd) : Row := if n.row < 0 then ⟨List.replicate P.costs.length 0, 0, 0⟩ else rowAt P.rows n.row.toNat
def contr (s v : Int) : Int := if s = 1 then v else if s = -1 then min v 0 else 0
def nodeV (P : Prog) (n : Nd) (i : Nat) : Int := n.den * nth P.costs i - n.num * nth (rowOf P n).coefs i
def startF (P : Prog) (n : Nd) : Int := if n.num < 0 then n.num * (rowOf P n).most else n.num * (rowOf P n).least
def totF (P : Prog) (st : List Int) (n : Nd) (k : Nat) : Int := startF P n + sumN (fun i => contr (nth st i) (nodeV P n i)) k
def boundF (P : Prog) (st : List Int) (n : Nd) : Int := ceilF (totF P st n P.costs.length) n.den
/-- What is known of the row of a bound. -/
structure RowIn (c : Nat) (r : Row) : Prop where
  len : r.coefs.length = c
  co : ∀ i, -10000 ≤ nth r.coefs i ∧ nth r.coefs i ≤ 10000
  le : -1000000 ≤ r.least ∧ r.least ≤ 1000000
  mo : -1000000 ≤ r.most ∧ r.most ≤ 1000000
theorem nth_out {xs : List Int} {i : Nat} (h : xs.length ≤ i) : nth xs i = 0 := by simp [nth, List.getD_eq_getElem?_getD, List.getElem?_eq_none h]
theorem rowIn_of {P : Prog} (hv : validB P = true) {n : Nd} (hb : bndB P.rows.length n = true) : RowIn P.costs.length (rowOf P n) := by
  unfold rowOf
  split
  · refine ⟨by simp, fun i => ?_, by show -1000000 ≤ (0 : Int) ∧ (0 : Int) ≤ 1000000; omega, by show -1000000 ≤ (0 : Int) ∧ (0 : Int) ≤ 1000000; omega⟩
    have : nth (List.replicate P.costs.length 0) i = 0 := by
      simp only [nth, List.getD_eq_getElem?_getD, List.getElem?_replicate]
      split <;> rfl
    simp only [this]
    decide
  · next h0 =>
    have hr : n.row < P.rows.length := by
      simp only [bndB] at hb
      by_cases h1 : n.row = -1
      · omega
      · rw [if_neg h1] at hb
        simp at hb
        omega
    have hlt : n.row.toNat < P.rows.length := by omega
    have hm : rowAt P.rows n.row.toNat ∈ P.rows := by
      rw [rowAt_eq (List.getElem?_eq_getElem hlt)]
      exact List.getElem_mem hlt
    obtain ⟨a, b, c, d⟩ := valid_rows hv hm
    refine ⟨a, fun i => ?_, c, d⟩
    rcases Nat.lt_or_ge i (rowAt P.rows n.row.toNat).coefs.length with h | h
    · exact b i h
    · rw [nth_out h]; decide
theorem node_in {n : Nd} {c : Nat} (hb : bndB c n = true) : (-10000 ≤ n.num ∧ n.num ≤ 10000) ∧ 1 ≤ n.den ∧ n.den ≤ 10000 := by
  simp only [bndB] at hb
  by_cases h1 : n.row = -1
  · rw [if_pos h1] at hb
    simp at hb
    omega
  · rw [if_neg h1] at hb
    simp at hb
    omega
theorem cost_in {P : Prog} (hv : validB P = true) (i : Nat) : 0 ≤ nth P.costs i ∧ nth P.costs i ≤ 10000 := by
  rcases Nat.lt_or_ge i P.costs.length with h | h
  · have h1 := (validB_parts hv).2.2.1
    have h2 := List.all_eq_true.1 h1 _ (List.getElem_mem h)
    have h3 := costB_iff.1 h2
    rw [nth_eq (List.getElem?_eq_getElem h)]
    exact h3
  · rw [nth_out h]; decide
theorem nodeV_in {P : Prog} (hv : validB P = true) {n : Nd} (hb : bndB P.rows.length n = true) (i : Nat) : -200000000 ≤ nodeV P n i ∧ nodeV P n i ≤ 200000000 := by
  obtain ⟨h1, h2⟩ := node_in hb
  have h3 := (rowIn_of hv hb).co i
  have h4 := cost_in hv i
  have m1 := mul_in (a := n.den) (b := nth P.costs i) (A := 10000) (B := 10000) (by omega) (by omega)
  have m2 := mul_in (a := n.num) (b := nth (rowOf P n).coefs i) (A := 10000) (B := 10000) (by omega) (by omega)
  unfold nodeV
  omega
theorem start_in {P : Prog} (hv : validB P = true) {n : Nd} (hb : bndB P.rows.length n = true) : -10000000000 ≤ startF P n ∧ startF P n ≤ 10000000000 := by
  obtain ⟨h1, h2⟩ := node_in hb
  have hr := rowIn_of hv hb
  have h3 := hr.le
  have h4 := hr.mo
  have m1 := mul_in (a := n.num) (b := (rowOf P n).most) (A := 10000) (B := 1000000) (by omega) (by omega)
  have m2 := mul_in (a := n.num) (b := (rowOf P n).least) (A := 10000) (B := 1000000) (by omega) (by omega)
  unfold startF
  split <;> omega
theorem contr_in {s v : Int} (h : -200000000 ≤ v ∧ v ≤ 200000000) : -200000000 ≤ contr s v ∧ contr s v ≤ 200000000 := by
  unfold contr
  split
  · exact h
  · split
    · omega
    · omega
theorem tot_in {P : Prog} (hv : validB P = true) {n : Nd} (hb : bndB P.rows.length n = true) (st : List Int) : ∀ k : Nat, k ≤ 12 → -(10000000000 + 200000000 * (k : Int)) ≤ totF P st n k ∧ totF P st n k ≤ 10000000000 + 200000000 * (k : Int)
  | 0, _ => by
    have := start_in hv hb
    simp only [totF, sumN]
    omega
  | k + 1, hk => by
    have h1 := tot_in hv hb st k (by omega)
    have h2 := contr_in (s := nth st k) (nodeV_in hv hb k)
    simp only [totF, sumN] at h1 ⊢
    omega
theorem min_if {x : Int} : (if 0 < x then 0 else x) = min x 0 := by omega
theorem tdiv_in {a b : Int} (hb : 1 ≤ b) : (a.tdiv b).natAbs ≤ a.natAbs := by
  rw [Int.natAbs_tdiv]; exact Nat.div_le_self _ _
theorem tot_next {P : Prog} {st : List Int} {n : Nd} {k : Nat} : totF P st n (k + 1) = totF P st n k + contr (nth st k) (nodeV P n k) := by
  simp only [totF, sumN]; omega
theorem boundOf_ok (P : Prog) (st : List Int) (n : Nd) (hv : validB P = true) (hs : st.length = P.costs.length) (hb : bndB P.rows.length n = true) : Good Try.prog TT false 41 [progV P, ints st, .agg (encN n)] (· = .int .i64 (boundF P st n)) := by
  have L1 : (P.costs.map encI).length = P.costs.length := List.length_map ..
  have L2 : (P.rows.map encRow).length = P.rows.length := List.length_map ..
  have L3 : (st.map encI).length = st.length := List.length_map ..
  have h12 := (validB_parts hv).1
  have hr := rowIn_of hv hb
  obtain ⟨hn, hd⟩ := node_in hb
  refine good_of_c (fun i => Nat.beq i 4) mixed tabOk Try.func41 rfl rfl Try.ntmps41 Try.results41 rfl rfl ?_
  (conv => whnf); (repeat (first | (refine arith_i ⟨by omega, by omega⟩ ?_; conv => whnf) | (refine need_i (by first | omega | (simp only [List.length_append, List.length_cons, List.length_nil]; omega)) ?_; conv => whnf) | ((with_reducible refine branch_tt ?_); conv => whnf) | ((with_reducible refine branch_ff ?_); conv => whnf) | (with_reducible refine branch_not ?_) | ((with_reducible refine slc_e ?_); conv => whnf) | ((with_reducible refine callS_a ?_); conv => whnf) | ((with_reducible refine bld_a ?_); conv => whnf) | ((with_reducible refine own_e ?_); conv => whnf)))
  refine branch_d (fun h0 => ?_) (fun h0 => ?_)
  · have hlt : n.row < P.rows.length := by
      simp only [bndB] at hb
      by_cases h1 : n.row = -1
      · omega
      · rw [if_neg h1] at hb
        simp at hb
        omega
    (conv => whnf); (repeat (first | (refine arith_i ⟨by omega, by omega⟩ ?_; conv => whnf) | (refine need_i (by first | omega | (simp only [List.length_append, List.length_cons, List.length_nil]; omega)) ?_; conv => whnf) | ((with_reducible refine branch_tt ?_); conv => whnf) | ((with_reducible refine branch_ff ?_); conv => whnf) | (with_reducible refine branch_not ?_) | ((with_reducible refine slc_e ?_); conv => whnf) | ((with_reducible refine callS_a ?_); conv => whnf) | ((with_reducible refine bld_a ?_); conv => whnf) | ((with_reducible refine own_e ?_); conv => whnf)))
    refine idx_m (by omega) (by omega) fun r hrr => ?_
    have er : rowOf P n = r := by rw [rowOf, if_neg (by omega), rowAt_eq hrr]
    (conv => whnf); (repeat (first | (refine arith_i ⟨by omega, by omega⟩ ?_; conv => whnf) | (refine need_i (by first | omega | (simp only [List.length_append, List.length_cons, List.length_nil]; omega)) ?_; conv => whnf) | ((with_reducible refine branch_tt ?_); conv => whnf) | ((with_reducible refine branch_ff ?_); conv => whnf) | (with_reducible refine branch_not ?_) | ((with_reducible refine slc_e ?_); conv => whnf) | ((with_reducible refine callS_a ?_); conv => whnf) | ((with_reducible refine bld_a ?_); conv => whnf) | ((with_reducible refine own_e ?_); conv => whnf)))
    refine rest_i (mkSt [(1, ints st), (3, .ptr 3 0), (5, .ptr 5 0), (7, .ptr 7 0)] [(3, [ints P.costs, rowsV P.rows]), (5, encN n), (7, encRow (rowOf P n))] false) (le_mk ⟨rfl, rfl, rfl, rfl, trivial⟩ ⟨rfl, rfl, by rw [er]; rfl, trivial⟩ rfl) ?_
    (conv => whnf); (repeat (first | (refine arith_i ⟨by omega, by omega⟩ ?_; conv => whnf) | (refine need_i (by first | omega | (simp only [List.length_append, List.length_cons, List.length_nil]; omega)) ?_; conv => whnf) | ((with_reducible refine branch_tt ?_); conv => whnf) | ((with_reducible refine branch_ff ?_); conv => whnf) | (with_reducible refine branch_not ?_) | ((with_reducible refine slc_e ?_); conv => whnf) | ((with_reducible refine callS_a ?_); conv => whnf) | ((with_reducible refine bld_a ?_); conv => whnf) | ((with_reducible refine own_e ?_); conv => whnf)))
    have m1 := mul_in (a := n.num) (b := (rowOf P n).least) (A := 10000) (B := 1000000) (by omega) (by have := hr.le; omega)
    have m2 := mul_in (a := n.num) (b := (rowOf P n).most) (A := 10000) (B := 1000000) (by omega) (by have := hr.mo; omega)
    refine arith_i (by omega) ?_
    (conv => whnf); (repeat (first | (refine arith_i ⟨by omega, by omega⟩ ?_; conv => whnf) | (refine need_i (by first | omega | (simp only [List.length_append, List.length_cons, List.length_nil]; omega)) ?_; conv => whnf) | ((with_reducible refine branch_tt ?_); conv => whnf) | ((with_reducible refine branch_ff ?_); conv => whnf) | (with_reducible refine branch_not ?_) | ((with_reducible refine slc_e ?_); conv => whnf) | ((with_reducible refine callS_a ?_); conv => whnf) | ((with_reducible refine bld_a ?_); conv => whnf) | ((with_reducible refine own_e ?_); conv => whnf)))
    have fin : ∀ t : Int, t = startF P n → True := fun _ _ => trivial
    refine branch_d (fun hneg => ?_) (fun hneg => ?_)
    · (conv => whnf); (repeat (first | (refine arith_i ⟨by omega, by omega⟩ ?_; conv => whnf) | (refine need_i (by first | omega | (simp only [List.length_append, List.length_cons, List.length_nil]; omega)) ?_; conv => whnf) | ((with_reducible refine branch_tt ?_); conv => whnf) | ((with_reducible refine branch_ff ?_); conv => whnf) | (with_reducible refine branch_not ?_) | ((with_reducible refine slc_e ?_); conv => whnf) | ((with_reducible refine callS_a ?_); conv => whnf) | ((with_reducible refine bld_a ?_); conv => whnf) | ((with_reducible refine own_e ?_); conv => whnf)))
      refine loop_i (fun k : Nat => k ≤ P.costs.length) (fun k => mkSt [(1, ints st), (3, .ptr 3 0), (5, .ptr 5 0), (7, .ptr 7 0), (8, .int .i64 (totF P st n k)), (40, ints P.costs), (41, .int .i64 (P.costs.map encI).length), (42, .int .i64 k)] [(3, [ints P.costs, rowsV P.rows]), (5, encN n), (7, encRow (rowOf P n))] false) (fun k => P.costs.length - k) 0 (Nat.zero_le _) (le_mk ⟨rfl, rfl, rfl, rfl, int_eq (by simp [totF, sumN, startF, hneg]), rfl, rfl, rfl, trivial⟩ ⟨rfl, rfl, rfl, trivial⟩ rfl) ?_
      intro k hk
      have ht := tot_in hv hb st k (by omega)
      have hnv := nodeV_in hv hb k
      have hco := hr.co k
      have hcs := cost_in hv k
      have Lc : ((rowOf P n).coefs.map encI).length = (rowOf P n).coefs.length := List.length_map ..
      have Lc2 := hr.len
      (conv => whnf); (repeat (first | (refine arith_i ⟨by omega, by omega⟩ ?_; conv => whnf) | (refine need_i (by first | omega | (simp only [List.length_append, List.length_cons, List.length_nil]; omega)) ?_; conv => whnf) | ((with_reducible refine branch_tt ?_); conv => whnf) | ((with_reducible refine branch_ff ?_); conv => whnf) | (with_reducible refine branch_not ?_) | ((with_reducible refine slc_e ?_); conv => whnf) | ((with_reducible refine callS_a ?_); conv => whnf) | ((with_reducible refine bld_a ?_); conv => whnf) | ((with_reducible refine own_e ?_); conv => whnf)))
      refine branch_d (fun h => ?_) (fun h => ?_)
      · (conv => whnf); (repeat (first | (refine arith_i ⟨by omega, by omega⟩ ?_; conv => whnf) | (refine need_i (by first | omega | (simp only [List.length_append, List.length_cons, List.length_nil]; omega)) ?_; conv => whnf) | ((with_reducible refine branch_tt ?_); conv => whnf) | ((with_reducible refine branch_ff ?_); conv => whnf) | (with_reducible refine branch_not ?_) | ((with_reducible refine slc_e ?_); conv => whnf) | ((with_reducible refine callS_a ?_); conv => whnf) | ((with_reducible refine bld_a ?_); conv => whnf) | ((with_reducible refine own_e ?_); conv => whnf)))
        refine idx_m (by omega) (by omega) fun c hc => ?_
        rw [Int.toNat_natCast] at hc
        have ec := nth_eq hc
        have q1 := mul_in (a := n.den) (b := c) (A := 10000) (B := 10000) (by omega) (by omega)
        (conv => whnf); (repeat (first | (refine arith_i ⟨by omega, by omega⟩ ?_; conv => whnf) | (refine need_i (by first | omega | (simp only [List.length_append, List.length_cons, List.length_nil]; omega)) ?_; conv => whnf) | ((with_reducible refine branch_tt ?_); conv => whnf) | ((with_reducible refine branch_ff ?_); conv => whnf) | (with_reducible refine branch_not ?_) | ((with_reducible refine slc_e ?_); conv => whnf) | ((with_reducible refine callS_a ?_); conv => whnf) | ((with_reducible refine bld_a ?_); conv => whnf) | ((with_reducible refine own_e ?_); conv => whnf)))
        refine draw_i 14 (.take 0 (.take 1 (.take 2 (.take 3 (.take 4 (.take 5 (.take 6 (.take 7 (.take 8 (.take 9 (.take 10 (.take 11 (.take 12 (.take 13 .done)))))))))))))) (by decide +kernel) ?_
        (conv => whnf); (repeat (first | (refine arith_i ⟨by omega, by omega⟩ ?_; conv => whnf) | (refine need_i (by first | omega | (simp only [List.length_append, List.length_cons, List.length_nil]; omega)) ?_; conv => whnf) | ((with_reducible refine branch_tt ?_); conv => whnf) | ((with_reducible refine branch_ff ?_); conv => whnf) | (with_reducible refine branch_not ?_) | ((with_reducible refine slc_e ?_); conv => whnf) | ((with_reducible refine callS_a ?_); conv => whnf) | ((with_reducible refine bld_a ?_); conv => whnf) | ((with_reducible refine own_e ?_); conv => whnf)))
        refine idx_m (by omega) (by omega) fun co hco2 => ?_
        rw [Int.toNat_natCast] at hco2
        have eco := nth_eq hco2
        have q2 := mul_in (a := n.num) (b := co) (A := 10000) (B := 10000) (by omega) (by omega)
        have env : nodeV P n k = n.den * c - n.num * co := by rw [nodeV, ec, eco]
        (conv => whnf); (repeat (first | (refine arith_i ⟨by omega, by omega⟩ ?_; conv => whnf) | (refine need_i (by first | omega | (simp only [List.length_append, List.length_cons, List.length_nil]; omega)) ?_; conv => whnf) | ((with_reducible refine branch_tt ?_); conv => whnf) | ((with_reducible refine branch_ff ?_); conv => whnf) | (with_reducible refine branch_not ?_) | ((with_reducible refine slc_e ?_); conv => whnf) | ((with_reducible refine callS_a ?_); conv => whnf) | ((with_reducible refine bld_a ?_); conv => whnf) | ((with_reducible refine own_e ?_); conv => whnf)))
        refine idx_m (by omega) (by omega) fun sx hsx => ?_
        rw [Int.toNat_natCast] at hsx
        have esx := nth_eq hsx
        have nx := tot_next (P := P) (st := st) (n := n) (k := k)
        rw [esx, env] at nx
        (conv => whnf); (repeat (first | (refine arith_i ⟨by omega, by omega⟩ ?_; conv => whnf) | (refine need_i (by first | omega | (simp only [List.length_append, List.length_cons, List.length_nil]; omega)) ?_; conv => whnf) | ((with_reducible refine branch_tt ?_); conv => whnf) | ((with_reducible refine branch_ff ?_); conv => whnf) | (with_reducible refine branch_not ?_) | ((with_reducible refine slc_e ?_); conv => whnf) | ((with_reducible refine callS_a ?_); conv => whnf) | ((with_reducible refine bld_a ?_); conv => whnf) | ((with_reducible refine own_e ?_); conv => whnf)))
        refine branch_e (fun e1 => ?_) (fun e1 => ?_)
        · rw [contr, if_pos e1] at nx
          (conv => whnf); (repeat (first | (refine arith_i ⟨by omega, by omega⟩ ?_; conv => whnf) | (refine need_i (by first | omega | (simp only [List.length_append, List.length_cons, List.length_nil]; omega)) ?_; conv => whnf) | ((with_reducible refine branch_tt ?_); conv => whnf) | ((with_reducible refine branch_ff ?_); conv => whnf) | (with_reducible refine branch_not ?_) | ((with_reducible refine slc_e ?_); conv => whnf) | ((with_reducible refine callS_a ?_); conv => whnf) | ((with_reducible refine bld_a ?_); conv => whnf) | ((with_reducible refine own_e ?_); conv => whnf)))
          exact ⟨k + 1, by omega, le_mk ⟨rfl, rfl, rfl, rfl, int_eq (by rw [nx]), rfl, rfl, rfl, trivial⟩ ⟨rfl, rfl, rfl, trivial⟩ rfl, by omega⟩
        · rw [contr, if_neg e1] at nx
          (conv => whnf); (repeat (first | (refine arith_i ⟨by omega, by omega⟩ ?_; conv => whnf) | (refine need_i (by first | omega | (simp only [List.length_append, List.length_cons, List.length_nil]; omega)) ?_; conv => whnf) | ((with_reducible refine branch_tt ?_); conv => whnf) | ((with_reducible refine branch_ff ?_); conv => whnf) | (with_reducible refine branch_not ?_) | ((with_reducible refine slc_e ?_); conv => whnf) | ((with_reducible refine callS_a ?_); conv => whnf) | ((with_reducible refine bld_a ?_); conv => whnf) | ((with_reducible refine own_e ?_); conv => whnf)))
          refine branch_e (fun e2 => ?_) (fun e2 => ?_)
          · rw [if_pos e2] at nx
            (conv => whnf); (repeat (first | (refine arith_i ⟨by omega, by omega⟩ ?_; conv => whnf) | (refine need_i (by first | omega | (simp only [List.length_append, List.length_cons, List.length_nil]; omega)) ?_; conv => whnf) | ((with_reducible refine branch_tt ?_); conv => whnf) | ((with_reducible refine branch_ff ?_); conv => whnf) | (with_reducible refine branch_not ?_) | ((with_reducible refine slc_e ?_); conv => whnf) | ((with_reducible refine callS_a ?_); conv => whnf) | ((with_reducible refine bld_a ?_); conv => whnf) | ((with_reducible refine own_e ?_); conv => whnf)))
            exact ⟨k + 1, by omega, le_mk ⟨rfl, rfl, rfl, rfl, int_eq (by rw [nx, min_if]), rfl, rfl, rfl, trivial⟩ ⟨rfl, rfl, rfl, trivial⟩ rfl, by omega⟩
          · rw [if_neg e2, Int.add_zero] at nx
            (conv => whnf); (repeat (first | (refine arith_i ⟨by omega, by omega⟩ ?_; conv => whnf) | (refine need_i (by first | omega | (simp only [List.length_append, List.length_cons, List.length_nil]; omega)) ?_; conv => whnf) | ((with_reducible refine branch_tt ?_); conv => whnf) | ((with_reducible refine branch_ff ?_); conv => whnf) | (with_reducible refine branch_not ?_) | ((with_reducible refine slc_e ?_); conv => whnf) | ((with_reducible refine callS_a ?_); conv => whnf) | ((with_reducible refine bld_a ?_); conv => whnf) | ((with_reducible refine own_e ?_); conv => whnf)))
            exact ⟨k + 1, by omega, le_mk ⟨rfl, rfl, rfl, rfl, int_eq (by rw [nx]), rfl, rfl, rfl, trivial⟩ ⟨rfl, rfl, rfl, trivial⟩ rfl, by omega⟩
      · have hkn : k = P.costs.length := by omega
        subst hkn
        (conv => whnf); (repeat (first | (refine arith_i ⟨by omega, by omega⟩ ?_; conv => whnf) | (refine need_i (by first | omega | (simp only [List.length_append, List.length_cons, List.length_nil]; omega)) ?_; conv => whnf) | ((with_reducible refine branch_tt ?_); conv => whnf) | ((with_reducible refine branch_ff ?_); conv => whnf) | (with_reducible refine branch_not ?_) | ((with_reducible refine slc_e ?_); conv => whnf) | ((with_reducible refine callS_a ?_); conv => whnf) | ((with_reducible refine bld_a ?_); conv => whnf) | ((with_reducible refine own_e ?_); conv => whnf)))
        refine call_e (ceil_ok (totF P st n P.costs.length) n.den (by omega) hd (by have := tdiv_in (a := totF P st n P.costs.length) hd.1; omega)) ?_
        (conv => whnf); (repeat (first | (refine arith_i ⟨by omega, by omega⟩ ?_; conv => whnf) | (refine need_i (by first | omega | (simp only [List.length_append, List.length_cons, List.length_nil]; omega)) ?_; conv => whnf) | ((with_reducible refine branch_tt ?_); conv => whnf) | ((with_reducible refine branch_ff ?_); conv => whnf) | (with_reducible refine branch_not ?_) | ((with_reducible refine slc_e ?_); conv => whnf) | ((with_reducible refine callS_a ?_); conv => whnf) | ((with_reducible refine bld_a ?_); conv => whnf) | ((with_reducible refine own_e ?_); conv => whnf)))
        exact ret_p rfl rfl
    · (conv => whnf); (repeat (first | (refine arith_i ⟨by omega, by omega⟩ ?_; conv => whnf) | (refine need_i (by first | omega | (simp only [List.length_append, List.length_cons, List.length_nil]; omega)) ?_; conv => whnf) | ((with_reducible refine branch_tt ?_); conv => whnf) | ((with_reducible refine branch_ff ?_); conv => whnf) | (with_reducible refine branch_not ?_) | ((with_reducible refine slc_e ?_); conv => whnf) | ((with_reducible refine callS_a ?_); conv => whnf) | ((with_reducible refine bld_a ?_); conv => whnf) | ((with_reducible refine own_e ?_); conv => whnf)))
      refine loop_i (fun k : Nat => k ≤ P.costs.length) (fun k => mkSt [(1, ints st), (3, .ptr 3 0), (5, .ptr 5 0), (7, .ptr 7 0), (8, .int .i64 (totF P st n k)), (40, ints P.costs), (41, .int .i64 (P.costs.map encI).length), (42, .int .i64 k)] [(3, [ints P.costs, rowsV P.rows]), (5, encN n), (7, encRow (rowOf P n))] false) (fun k => P.costs.length - k) 0 (Nat.zero_le _) (le_mk ⟨rfl, rfl, rfl, rfl, int_eq (by simp [totF, sumN, startF, hneg]), rfl, rfl, rfl, trivial⟩ ⟨rfl, rfl, rfl, trivial⟩ rfl) ?_
      intro k hk
      have ht := tot_in hv hb st k (by omega)
      have hnv := nodeV_in hv hb k
      have hco := hr.co k
      have hcs := cost_in hv k
      have Lc : ((rowOf P n).coefs.map encI).length = (rowOf P n).coefs.length := List.length_map ..
      have Lc2 := hr.len
      (conv => whnf); (repeat (first | (refine arith_i ⟨by omega, by omega⟩ ?_; conv => whnf) | (refine need_i (by first | omega | (simp only [List.length_append, List.length_cons, List.length_nil]; omega)) ?_; conv => whnf) | ((with_reducible refine branch_tt ?_); conv => whnf) | ((with_reducible refine branch_ff ?_); conv => whnf) | (with_reducible refine branch_not ?_) | ((with_reducible refine slc_e ?_); conv => whnf) | ((with_reducible refine callS_a ?_); conv => whnf) | ((with_reducible refine bld_a ?_); conv => whnf) | ((with_reducible refine own_e ?_); conv => whnf)))
      refine branch_d (fun h => ?_) (fun h => ?_)
      · (conv => whnf); (repeat (first | (refine arith_i ⟨by omega, by omega⟩ ?_; conv => whnf) | (refine need_i (by first | omega | (simp only [List.length_append, List.length_cons, List.length_nil]; omega)) ?_; conv => whnf) | ((with_reducible refine branch_tt ?_); conv => whnf) | ((with_reducible refine branch_ff ?_); conv => whnf) | (with_reducible refine branch_not ?_) | ((with_reducible refine slc_e ?_); conv => whnf) | ((with_reducible refine callS_a ?_); conv => whnf) | ((with_reducible refine bld_a ?_); conv => whnf) | ((with_reducible refine own_e ?_); conv => whnf)))
        refine idx_m (by omega) (by omega) fun c hc => ?_
        rw [Int.toNat_natCast] at hc
        have ec := nth_eq hc
        have q1 := mul_in (a := n.den) (b := c) (A := 10000) (B := 10000) (by omega) (by omega)
        (conv => whnf); (repeat (first | (refine arith_i ⟨by omega, by omega⟩ ?_; conv => whnf) | (refine need_i (by first | omega | (simp only [List.length_append, List.length_cons, List.length_nil]; omega)) ?_; conv => whnf) | ((with_reducible refine branch_tt ?_); conv => whnf) | ((with_reducible refine branch_ff ?_); conv => whnf) | (with_reducible refine branch_not ?_) | ((with_reducible refine slc_e ?_); conv => whnf) | ((with_reducible refine callS_a ?_); conv => whnf) | ((with_reducible refine bld_a ?_); conv => whnf) | ((with_reducible refine own_e ?_); conv => whnf)))
        refine draw_i 14 (.take 0 (.take 1 (.take 2 (.take 3 (.take 4 (.take 5 (.take 6 (.take 7 (.take 8 (.take 9 (.take 10 (.take 11 (.take 12 (.take 13 .done)))))))))))))) (by decide +kernel) ?_
        (conv => whnf); (repeat (first | (refine arith_i ⟨by omega, by omega⟩ ?_; conv => whnf) | (refine need_i (by first | omega | (simp only [List.length_append, List.length_cons, List.length_nil]; omega)) ?_; conv => whnf) | ((with_reducible refine branch_tt ?_); conv => whnf) | ((with_reducible refine branch_ff ?_); conv => whnf) | (with_reducible refine branch_not ?_) | ((with_reducible refine slc_e ?_); conv => whnf) | ((with_reducible refine callS_a ?_); conv => whnf) | ((with_reducible refine bld_a ?_); conv => whnf) | ((with_reducible refine own_e ?_); conv => whnf)))
        refine idx_m (by omega) (by omega) fun co hco2 => ?_
        rw [Int.toNat_natCast] at hco2
        have eco := nth_eq hco2
        have q2 := mul_in (a := n.num) (b := co) (A := 10000) (B := 10000) (by omega) (by omega)
        have env : nodeV P n k = n.den * c - n.num * co := by rw [nodeV, ec, eco]
        (conv => whnf); (repeat (first | (refine arith_i ⟨by omega, by omega⟩ ?_; conv => whnf) | (refine need_i (by first | omega | (simp only [List.length_append, List.length_cons, List.length_nil]; omega)) ?_; conv => whnf) | ((with_reducible refine branch_tt ?_); conv => whnf) | ((with_reducible refine branch_ff ?_); conv => whnf) | (with_reducible refine branch_not ?_) | ((with_reducible refine slc_e ?_); conv => whnf) | ((with_reducible refine callS_a ?_); conv => whnf) | ((with_reducible refine bld_a ?_); conv => whnf) | ((with_reducible refine own_e ?_); conv => whnf)))
        refine idx_m (by omega) (by omega) fun sx hsx => ?_
        rw [Int.toNat_natCast] at hsx
        have esx := nth_eq hsx
        have nx := tot_next (P := P) (st := st) (n := n) (k := k)
        rw [esx, env] at nx
        (conv => whnf); (repeat (first | (refine arith_i ⟨by omega, by omega⟩ ?_; conv => whnf) | (refine need_i (by first | omega | (simp only [List.length_append, List.length_cons, List.length_nil]; omega)) ?_; conv => whnf) | ((with_reducible refine branch_tt ?_); conv => whnf) | ((with_reducible refine branch_ff ?_); conv => whnf) | (with_reducible refine branch_not ?_) | ((with_reducible refine slc_e ?_); conv => whnf) | ((with_reducible refine callS_a ?_); conv => whnf) | ((with_reducible refine bld_a ?_); conv => whnf) | ((with_reducible refine own_e ?_); conv => whnf)))
        refine branch_e (fun e1 => ?_) (fun e1 => ?_)
        · rw [contr, if_pos e1] at nx
          (conv => whnf); (repeat (first | (refine arith_i ⟨by omega, by omega⟩ ?_; conv => whnf) | (refine need_i (by first | omega | (simp only [List.length_append, List.length_cons, List.length_nil]; omega)) ?_; conv => whnf) | ((with_reducible refine branch_tt ?_); conv => whnf) | ((with_reducible refine branch_ff ?_); conv => whnf) | (with_reducible refine branch_not ?_) | ((with_reducible refine slc_e ?_); conv => whnf) | ((with_reducible refine callS_a ?_); conv => whnf) | ((with_reducible refine bld_a ?_); conv => whnf) | ((with_reducible refine own_e ?_); conv => whnf)))
          exact ⟨k + 1, by omega, le_mk ⟨rfl, rfl, rfl, rfl, int_eq (by rw [nx]), rfl, rfl, rfl, trivial⟩ ⟨rfl, rfl, rfl, trivial⟩ rfl, by omega⟩
        · rw [contr, if_neg e1] at nx
          (conv => whnf); (repeat (first | (refine arith_i ⟨by omega, by omega⟩ ?_; conv => whnf) | (refine need_i (by first | omega | (simp only [List.length_append, List.length_cons, List.length_nil]; omega)) ?_; conv => whnf) | ((with_reducible refine branch_tt ?_); conv => whnf) | ((with_reducible refine branch_ff ?_); conv => whnf) | (with_reducible refine branch_not ?_) | ((with_reducible refine slc_e ?_); conv => whnf) | ((with_reducible refine callS_a ?_); conv => whnf) | ((with_reducible refine bld_a ?_); conv => whnf) | ((with_reducible refine own_e ?_); conv => whnf)))
          refine branch_e (fun e2 => ?_) (fun e2 => ?_)
          · rw [if_pos e2] at nx
            (conv => whnf); (repeat (first | (refine arith_i ⟨by omega, by omega⟩ ?_; conv => whnf) | (refine need_i (by first | omega | (simp only [List.length_append, List.length_cons, List.length_nil]; omega)) ?_; conv => whnf) | ((with_reducible refine branch_tt ?_); conv => whnf) | ((with_reducible refine branch_ff ?_); conv => whnf) | (with_reducible refine branch_not ?_) | ((with_reducible refine slc_e ?_); conv => whnf) | ((with_reducible refine callS_a ?_); conv => whnf) | ((with_reducible refine bld_a ?_); conv => whnf) | ((with_reducible refine own_e ?_); conv => whnf)))
            exact ⟨k + 1, by omega, le_mk ⟨rfl, rfl, rfl, rfl, int_eq (by rw [nx, min_if]), rfl, rfl, rfl, trivial⟩ ⟨rfl, rfl, rfl, trivial⟩ rfl, by omega⟩
          · rw [if_neg e2, Int.add_zero] at nx
            (conv => whnf); (repeat (first | (refine arith_i ⟨by omega, by omega⟩ ?_; conv => whnf) | (refine need_i (by first | omega | (simp only [List.length_append, List.length_cons, List.length_nil]; omega)) ?_; conv => whnf) | ((with_reducible refine branch_tt ?_); conv => whnf) | ((with_reducible refine branch_ff ?_); conv => whnf) | (with_reducible refine branch_not ?_) | ((with_reducible refine slc_e ?_); conv => whnf) | ((with_reducible refine callS_a ?_); conv => whnf) | ((with_reducible refine bld_a ?_); conv => whnf) | ((with_reducible refine own_e ?_); conv => whnf)))
            exact ⟨k + 1, by omega, le_mk ⟨rfl, rfl, rfl, rfl, int_eq (by rw [nx]), rfl, rfl, rfl, trivial⟩ ⟨rfl, rfl, rfl, trivial⟩ rfl, by omega⟩
      · have hkn : k = P.costs.length := by omega
        subst hkn
        (conv => whnf); (repeat (first | (refine arith_i ⟨by omega, by omega⟩ ?_; conv => whnf) | (refine need_i (by first | omega | (simp only [List.length_append, List.length_cons, List.length_nil]; omega)) ?_; conv => whnf) | ((with_reducible refine branch_tt ?_); conv => whnf) | ((with_reducible refine branch_ff ?_); conv => whnf) | (with_reducible refine branch_not ?_) | ((with_reducible refine slc_e ?_); conv => whnf) | ((with_reducible refine callS_a ?_); conv => whnf) | ((with_reducible refine bld_a ?_); conv => whnf) | ((with_reducible refine own_e ?_); conv => whnf)))
        refine call_e (ceil_ok (totF P st n P.costs.length) n.den (by omega) hd (by have := tdiv_in (a := totF P st n P.costs.length) hd.1; omega)) ?_
        (conv => whnf); (repeat (first | (refine arith_i ⟨by omega, by omega⟩ ?_; conv => whnf) | (refine need_i (by first | omega | (simp only [List.length_append, List.length_cons, List.length_nil]; omega)) ?_; conv => whnf) | ((with_reducible refine branch_tt ?_); conv => whnf) | ((with_reducible refine branch_ff ?_); conv => whnf) | (with_reducible refine branch_not ?_) | ((with_reducible refine slc_e ?_); conv => whnf) | ((with_reducible refine callS_a ?_); conv => whnf) | ((with_reducible refine bld_a ?_); conv => whnf) | ((with_reducible refine own_e ?_); conv => whnf)))
        exact ret_p rfl rfl
  · have er : encRow (rowOf P n) = [.lst 1 (List.replicate (P.costs.map encI).length [.int .i64 0]), .int .i64 0, .int .i64 0] := by
      rw [rowOf, if_pos (by omega), L1]
      simp [encRow, ints, encI, List.map_replicate]
    (conv => whnf); (repeat (first | (refine arith_i ⟨by omega, by omega⟩ ?_; conv => whnf) | (refine need_i (by first | omega | (simp only [List.length_append, List.length_cons, List.length_nil]; omega)) ?_; conv => whnf) | ((with_reducible refine branch_tt ?_); conv => whnf) | ((with_reducible refine branch_ff ?_); conv => whnf) | (with_reducible refine branch_not ?_) | ((with_reducible refine slc_e ?_); conv => whnf) | ((with_reducible refine callS_a ?_); conv => whnf) | ((with_reducible refine bld_a ?_); conv => whnf) | ((with_reducible refine own_e ?_); conv => whnf)))
    refine rest_i (mkSt [(1, ints st), (3, .ptr 3 0), (5, .ptr 5 0), (7, .ptr 7 0)] [(3, [ints P.costs, rowsV P.rows]), (5, encN n), (7, encRow (rowOf P n))] false) (Le.trans (le_erase 15) (le_mk ⟨rfl, rfl, rfl, rfl, trivial⟩ ⟨rfl, rfl, by rw [er]; rfl, trivial⟩ rfl)) ?_
    (conv => whnf); (repeat (first | (refine arith_i ⟨by omega, by omega⟩ ?_; conv => whnf) | (refine need_i (by first | omega | (simp only [List.length_append, List.length_cons, List.length_nil]; omega)) ?_; conv => whnf) | ((with_reducible refine branch_tt ?_); conv => whnf) | ((with_reducible refine branch_ff ?_); conv => whnf) | (with_reducible refine branch_not ?_) | ((with_reducible refine slc_e ?_); conv => whnf) | ((with_reducible refine callS_a ?_); conv => whnf) | ((with_reducible refine bld_a ?_); conv => whnf) | ((with_reducible refine own_e ?_); conv => whnf)))
    have m1 := mul_in (a := n.num) (b := (rowOf P n).least) (A := 10000) (B := 1000000) (by omega) (by have := hr.le; omega)
    have m2 := mul_in (a := n.num) (b := (rowOf P n).most) (A := 10000) (B := 1000000) (by omega) (by have := hr.mo; omega)
    refine arith_i (by omega) ?_
    (conv => whnf); (repeat (first | (refine arith_i ⟨by omega, by omega⟩ ?_; conv => whnf) | (refine need_i (by first | omega | (simp only [List.length_append, List.length_cons, List.length_nil]; omega)) ?_; conv => whnf) | ((with_reducible refine branch_tt ?_); conv => whnf) | ((with_reducible refine branch_ff ?_); conv => whnf) | (with_reducible refine branch_not ?_) | ((with_reducible refine slc_e ?_); conv => whnf) | ((with_reducible refine callS_a ?_); conv => whnf) | ((with_reducible refine bld_a ?_); conv => whnf) | ((with_reducible refine own_e ?_); conv => whnf)))
    have fin : ∀ t : Int, t = startF P n → True := fun _ _ => trivial
    refine branch_d (fun hneg => ?_) (fun hneg => ?_)
    · (conv => whnf); (repeat (first | (refine arith_i ⟨by omega, by omega⟩ ?_; conv => whnf) | (refine need_i (by first | omega | (simp only [List.length_append, List.length_cons, List.length_nil]; omega)) ?_; conv => whnf) | ((with_reducible refine branch_tt ?_); conv => whnf) | ((with_reducible refine branch_ff ?_); conv => whnf) | (with_reducible refine branch_not ?_) | ((with_reducible refine slc_e ?_); conv => whnf) | ((with_reducible refine callS_a ?_); conv => whnf) | ((with_reducible refine bld_a ?_); conv => whnf) | ((with_reducible refine own_e ?_); conv => whnf)))
      refine loop_i (fun k : Nat => k ≤ P.costs.length) (fun k => mkSt [(1, ints st), (3, .ptr 3 0), (5, .ptr 5 0), (7, .ptr 7 0), (8, .int .i64 (totF P st n k)), (40, ints P.costs), (41, .int .i64 (P.costs.map encI).length), (42, .int .i64 k)] [(3, [ints P.costs, rowsV P.rows]), (5, encN n), (7, encRow (rowOf P n))] false) (fun k => P.costs.length - k) 0 (Nat.zero_le _) (le_mk ⟨rfl, rfl, rfl, rfl, int_eq (by simp [totF, sumN, startF, hneg]), rfl, rfl, rfl, trivial⟩ ⟨rfl, rfl, rfl, trivial⟩ rfl) ?_
      intro k hk
      have ht := tot_in hv hb st k (by omega)
      have hnv := nodeV_in hv hb k
      have hco := hr.co k
      have hcs := cost_in hv k
      have Lc : ((rowOf P n).coefs.map encI).length = (rowOf P n).coefs.length := List.length_map ..
      have Lc2 := hr.len
      (conv => whnf); (repeat (first | (refine arith_i ⟨by omega, by omega⟩ ?_; conv => whnf) | (refine need_i (by first | omega | (simp only [List.length_append, List.length_cons, List.length_nil]; omega)) ?_; conv => whnf) | ((with_reducible refine branch_tt ?_); conv => whnf) | ((with_reducible refine branch_ff ?_); conv => whnf) | (with_reducible refine branch_not ?_) | ((with_reducible refine slc_e ?_); conv => whnf) | ((with_reducible refine callS_a ?_); conv => whnf) | ((with_reducible refine bld_a ?_); conv => whnf) | ((with_reducible refine own_e ?_); conv => whnf)))
      refine branch_d (fun h => ?_) (fun h => ?_)
      · (conv => whnf); (repeat (first | (refine arith_i ⟨by omega, by omega⟩ ?_; conv => whnf) | (refine need_i (by first | omega | (simp only [List.length_append, List.length_cons, List.length_nil]; omega)) ?_; conv => whnf) | ((with_reducible refine branch_tt ?_); conv => whnf) | ((with_reducible refine branch_ff ?_); conv => whnf) | (with_reducible refine branch_not ?_) | ((with_reducible refine slc_e ?_); conv => whnf) | ((with_reducible refine callS_a ?_); conv => whnf) | ((with_reducible refine bld_a ?_); conv => whnf) | ((with_reducible refine own_e ?_); conv => whnf)))
        refine idx_m (by omega) (by omega) fun c hc => ?_
        rw [Int.toNat_natCast] at hc
        have ec := nth_eq hc
        have q1 := mul_in (a := n.den) (b := c) (A := 10000) (B := 10000) (by omega) (by omega)
        (conv => whnf); (repeat (first | (refine arith_i ⟨by omega, by omega⟩ ?_; conv => whnf) | (refine need_i (by first | omega | (simp only [List.length_append, List.length_cons, List.length_nil]; omega)) ?_; conv => whnf) | ((with_reducible refine branch_tt ?_); conv => whnf) | ((with_reducible refine branch_ff ?_); conv => whnf) | (with_reducible refine branch_not ?_) | ((with_reducible refine slc_e ?_); conv => whnf) | ((with_reducible refine callS_a ?_); conv => whnf) | ((with_reducible refine bld_a ?_); conv => whnf) | ((with_reducible refine own_e ?_); conv => whnf)))
        refine draw_i 14 (.take 0 (.take 1 (.take 2 (.take 3 (.take 4 (.take 5 (.take 6 (.take 7 (.take 8 (.take 9 (.take 10 (.take 11 (.take 12 (.take 13 .done)))))))))))))) (by decide +kernel) ?_
        (conv => whnf); (repeat (first | (refine arith_i ⟨by omega, by omega⟩ ?_; conv => whnf) | (refine need_i (by first | omega | (simp only [List.length_append, List.length_cons, List.length_nil]; omega)) ?_; conv => whnf) | ((with_reducible refine branch_tt ?_); conv => whnf) | ((with_reducible refine branch_ff ?_); conv => whnf) | (with_reducible refine branch_not ?_) | ((with_reducible refine slc_e ?_); conv => whnf) | ((with_reducible refine callS_a ?_); conv => whnf) | ((with_reducible refine bld_a ?_); conv => whnf) | ((with_reducible refine own_e ?_); conv => whnf)))
        refine idx_m (by omega) (by omega) fun co hco2 => ?_
        rw [Int.toNat_natCast] at hco2
        have eco := nth_eq hco2
        have q2 := mul_in (a := n.num) (b := co) (A := 10000) (B := 10000) (by omega) (by omega)
        have env : nodeV P n k = n.den * c - n.num * co := by rw [nodeV, ec, eco]
        (conv => whnf); (repeat (first | (refine arith_i ⟨by omega, by omega⟩ ?_; conv => whnf) | (refine need_i (by first | omega | (simp only [List.length_append, List.length_cons, List.length_nil]; omega)) ?_; conv => whnf) | ((with_reducible refine branch_tt ?_); conv => whnf) | ((with_reducible refine branch_ff ?_); conv => whnf) | (with_reducible refine branch_not ?_) | ((with_reducible refine slc_e ?_); conv => whnf) | ((with_reducible refine callS_a ?_); conv => whnf) | ((with_reducible refine bld_a ?_); conv => whnf) | ((with_reducible refine own_e ?_); conv => whnf)))
        refine idx_m (by omega) (by omega) fun sx hsx => ?_
        rw [Int.toNat_natCast] at hsx
        have esx := nth_eq hsx
        have nx := tot_next (P := P) (st := st) (n := n) (k := k)
        rw [esx, env] at nx
        (conv => whnf); (repeat (first | (refine arith_i ⟨by omega, by omega⟩ ?_; conv => whnf) | (refine need_i (by first | omega | (simp only [List.length_append, List.length_cons, List.length_nil]; omega)) ?_; conv => whnf) | ((with_reducible refine branch_tt ?_); conv => whnf) | ((with_reducible refine branch_ff ?_); conv => whnf) | (with_reducible refine branch_not ?_) | ((with_reducible refine slc_e ?_); conv => whnf) | ((with_reducible refine callS_a ?_); conv => whnf) | ((with_reducible refine bld_a ?_); conv => whnf) | ((with_reducible refine own_e ?_); conv => whnf)))
        refine branch_e (fun e1 => ?_) (fun e1 => ?_)
        · rw [contr, if_pos e1] at nx
          (conv => whnf); (repeat (first | (refine arith_i ⟨by omega, by omega⟩ ?_; conv => whnf) | (refine need_i (by first | omega | (simp only [List.length_append, List.length_cons, List.length_nil]; omega)) ?_; conv => whnf) | ((with_reducible refine branch_tt ?_); conv => whnf) | ((with_reducible refine branch_ff ?_); conv => whnf) | (with_reducible refine branch_not ?_) | ((with_reducible refine slc_e ?_); conv => whnf) | ((with_reducible refine callS_a ?_); conv => whnf) | ((with_reducible refine bld_a ?_); conv => whnf) | ((with_reducible refine own_e ?_); conv => whnf)))
          exact ⟨k + 1, by omega, le_mk ⟨rfl, rfl, rfl, rfl, int_eq (by rw [nx]), rfl, rfl, rfl, trivial⟩ ⟨rfl, rfl, rfl, trivial⟩ rfl, by omega⟩
        · rw [contr, if_neg e1] at nx
          (conv => whnf); (repeat (first | (refine arith_i ⟨by omega, by omega⟩ ?_; conv => whnf) | (refine need_i (by first | omega | (simp only [List.length_append, List.length_cons, List.length_nil]; omega)) ?_; conv => whnf) | ((with_reducible refine branch_tt ?_); conv => whnf) | ((with_reducible refine branch_ff ?_); conv => whnf) | (with_reducible refine branch_not ?_) | ((with_reducible refine slc_e ?_); conv => whnf) | ((with_reducible refine callS_a ?_); conv => whnf) | ((with_reducible refine bld_a ?_); conv => whnf) | ((with_reducible refine own_e ?_); conv => whnf)))
          refine branch_e (fun e2 => ?_) (fun e2 => ?_)
          · rw [if_pos e2] at nx
            (conv => whnf); (repeat (first | (refine arith_i ⟨by omega, by omega⟩ ?_; conv => whnf) | (refine need_i (by first | omega | (simp only [List.length_append, List.length_cons, List.length_nil]; omega)) ?_; conv => whnf) | ((with_reducible refine branch_tt ?_); conv => whnf) | ((with_reducible refine branch_ff ?_); conv => whnf) | (with_reducible refine branch_not ?_) | ((with_reducible refine slc_e ?_); conv => whnf) | ((with_reducible refine callS_a ?_); conv => whnf) | ((with_reducible refine bld_a ?_); conv => whnf) | ((with_reducible refine own_e ?_); conv => whnf)))
            exact ⟨k + 1, by omega, le_mk ⟨rfl, rfl, rfl, rfl, int_eq (by rw [nx, min_if]), rfl, rfl, rfl, trivial⟩ ⟨rfl, rfl, rfl, trivial⟩ rfl, by omega⟩
          · rw [if_neg e2, Int.add_zero] at nx
            (conv => whnf); (repeat (first | (refine arith_i ⟨by omega, by omega⟩ ?_; conv => whnf) | (refine need_i (by first | omega | (simp only [List.length_append, List.length_cons, List.length_nil]; omega)) ?_; conv => whnf) | ((with_reducible refine branch_tt ?_); conv => whnf) | ((with_reducible refine branch_ff ?_); conv => whnf) | (with_reducible refine branch_not ?_) | ((with_reducible refine slc_e ?_); conv => whnf) | ((with_reducible refine callS_a ?_); conv => whnf) | ((with_reducible refine bld_a ?_); conv => whnf) | ((with_reducible refine own_e ?_); conv => whnf)))
            exact ⟨k + 1, by omega, le_mk ⟨rfl, rfl, rfl, rfl, int_eq (by rw [nx]), rfl, rfl, rfl, trivial⟩ ⟨rfl, rfl, rfl, trivial⟩ rfl, by omega⟩
      · have hkn : k = P.costs.length := by omega
        subst hkn
        (conv => whnf); (repeat (first | (refine arith_i ⟨by omega, by omega⟩ ?_; conv => whnf) | (refine need_i (by first | omega | (simp only [List.length_append, List.length_cons, List.length_nil]; omega)) ?_; conv => whnf) | ((with_reducible refine branch_tt ?_); conv => whnf) | ((with_reducible refine branch_ff ?_); conv => whnf) | (with_reducible refine branch_not ?_) | ((with_reducible refine slc_e ?_); conv => whnf) | ((with_reducible refine callS_a ?_); conv => whnf) | ((with_reducible refine bld_a ?_); conv => whnf) | ((with_reducible refine own_e ?_); conv => whnf)))
        refine call_e (ceil_ok (totF P st n P.costs.length) n.den (by omega) hd (by have := tdiv_in (a := totF P st n P.costs.length) hd.1; omega)) ?_
        (conv => whnf); (repeat (first | (refine arith_i ⟨by omega, by omega⟩ ?_; conv => whnf) | (refine need_i (by first | omega | (simp only [List.length_append, List.length_cons, List.length_nil]; omega)) ?_; conv => whnf) | ((with_reducible refine branch_tt ?_); conv => whnf) | ((with_reducible refine branch_ff ?_); conv => whnf) | (with_reducible refine branch_not ?_) | ((with_reducible refine slc_e ?_); conv => whnf) | ((with_reducible refine callS_a ?_); conv => whnf) | ((with_reducible refine bld_a ?_); conv => whnf) | ((with_reducible refine own_e ?_); conv => whnf)))
        exact ret_p rfl rfl
    · (conv => whnf); (repeat (first | (refine arith_i ⟨by omega, by omega⟩ ?_; conv => whnf) | (refine need_i (by first | omega | (simp only [List.length_append, List.length_cons, List.length_nil]; omega)) ?_; conv => whnf) | ((with_reducible refine branch_tt ?_); conv => whnf) | ((with_reducible refine branch_ff ?_); conv => whnf) | (with_reducible refine branch_not ?_) | ((with_reducible refine slc_e ?_); conv => whnf) | ((with_reducible refine callS_a ?_); conv => whnf) | ((with_reducible refine bld_a ?_); conv => whnf) | ((with_reducible refine own_e ?_); conv => whnf)))
      refine loop_i (fun k : Nat => k ≤ P.costs.length) (fun k => mkSt [(1, ints st), (3, .ptr 3 0), (5, .ptr 5 0), (7, .ptr 7 0), (8, .int .i64 (totF P st n k)), (40, ints P.costs), (41, .int .i64 (P.costs.map encI).length), (42, .int .i64 k)] [(3, [ints P.costs, rowsV P.rows]), (5, encN n), (7, encRow (rowOf P n))] false) (fun k => P.costs.length - k) 0 (Nat.zero_le _) (le_mk ⟨rfl, rfl, rfl, rfl, int_eq (by simp [totF, sumN, startF, hneg]), rfl, rfl, rfl, trivial⟩ ⟨rfl, rfl, rfl, trivial⟩ rfl) ?_
      intro k hk
      have ht := tot_in hv hb st k (by omega)
      have hnv := nodeV_in hv hb k
      have hco := hr.co k
      have hcs := cost_in hv k
      have Lc : ((rowOf P n).coefs.map encI).length = (rowOf P n).coefs.length := List.length_map ..
      have Lc2 := hr.len
      (conv => whnf); (repeat (first | (refine arith_i ⟨by omega, by omega⟩ ?_; conv => whnf) | (refine need_i (by first | omega | (simp only [List.length_append, List.length_cons, List.length_nil]; omega)) ?_; conv => whnf) | ((with_reducible refine branch_tt ?_); conv => whnf) | ((with_reducible refine branch_ff ?_); conv => whnf) | (with_reducible refine branch_not ?_) | ((with_reducible refine slc_e ?_); conv => whnf) | ((with_reducible refine callS_a ?_); conv => whnf) | ((with_reducible refine bld_a ?_); conv => whnf) | ((with_reducible refine own_e ?_); conv => whnf)))
      refine branch_d (fun h => ?_) (fun h => ?_)
      · (conv => whnf); (repeat (first | (refine arith_i ⟨by omega, by omega⟩ ?_; conv => whnf) | (refine need_i (by first | omega | (simp only [List.length_append, List.length_cons, List.length_nil]; omega)) ?_; conv => whnf) | ((with_reducible refine branch_tt ?_); conv => whnf) | ((with_reducible refine branch_ff ?_); conv => whnf) | (with_reducible refine branch_not ?_) | ((with_reducible refine slc_e ?_); conv => whnf) | ((with_reducible refine callS_a ?_); conv => whnf) | ((with_reducible refine bld_a ?_); conv => whnf) | ((with_reducible refine own_e ?_); conv => whnf)))
        refine idx_m (by omega) (by omega) fun c hc => ?_
        rw [Int.toNat_natCast] at hc
        have ec := nth_eq hc
        have q1 := mul_in (a := n.den) (b := c) (A := 10000) (B := 10000) (by omega) (by omega)
        (conv => whnf); (repeat (first | (refine arith_i ⟨by omega, by omega⟩ ?_; conv => whnf) | (refine need_i (by first | omega | (simp only [List.length_append, List.length_cons, List.length_nil]; omega)) ?_; conv => whnf) | ((with_reducible refine branch_tt ?_); conv => whnf) | ((with_reducible refine branch_ff ?_); conv => whnf) | (with_reducible refine branch_not ?_) | ((with_reducible refine slc_e ?_); conv => whnf) | ((with_reducible refine callS_a ?_); conv => whnf) | ((with_reducible refine bld_a ?_); conv => whnf) | ((with_reducible refine own_e ?_); conv => whnf)))
        refine draw_i 14 (.take 0 (.take 1 (.take 2 (.take 3 (.take 4 (.take 5 (.take 6 (.take 7 (.take 8 (.take 9 (.take 10 (.take 11 (.take 12 (.take 13 .done)))))))))))))) (by decide +kernel) ?_
        (conv => whnf); (repeat (first | (refine arith_i ⟨by omega, by omega⟩ ?_; conv => whnf) | (refine need_i (by first | omega | (simp only [List.length_append, List.length_cons, List.length_nil]; omega)) ?_; conv => whnf) | ((with_reducible refine branch_tt ?_); conv => whnf) | ((with_reducible refine branch_ff ?_); conv => whnf) | (with_reducible refine branch_not ?_) | ((with_reducible refine slc_e ?_); conv => whnf) | ((with_reducible refine callS_a ?_); conv => whnf) | ((with_reducible refine bld_a ?_); conv => whnf) | ((with_reducible refine own_e ?_); conv => whnf)))
        refine idx_m (by omega) (by omega) fun co hco2 => ?_
        rw [Int.toNat_natCast] at hco2
        have eco := nth_eq hco2
        have q2 := mul_in (a := n.num) (b := co) (A := 10000) (B := 10000) (by omega) (by omega)
        have env : nodeV P n k = n.den * c - n.num * co := by rw [nodeV, ec, eco]
        (conv => whnf); (repeat (first | (refine arith_i ⟨by omega, by omega⟩ ?_; conv => whnf) | (refine need_i (by first | omega | (simp only [List.length_append, List.length_cons, List.length_nil]; omega)) ?_; conv => whnf) | ((with_reducible refine branch_tt ?_); conv => whnf) | ((with_reducible refine branch_ff ?_); conv => whnf) | (with_reducible refine branch_not ?_) | ((with_reducible refine slc_e ?_); conv => whnf) | ((with_reducible refine callS_a ?_); conv => whnf) | ((with_reducible refine bld_a ?_); conv => whnf) | ((with_reducible refine own_e ?_); conv => whnf)))
        refine idx_m (by omega) (by omega) fun sx hsx => ?_
        rw [Int.toNat_natCast] at hsx
        have esx := nth_eq hsx
        have nx := tot_next (P := P) (st := st) (n := n) (k := k)
        rw [esx, env] at nx
        (conv => whnf); (repeat (first | (refine arith_i ⟨by omega, by omega⟩ ?_; conv => whnf) | (refine need_i (by first | omega | (simp only [List.length_append, List.length_cons, List.length_nil]; omega)) ?_; conv => whnf) | ((with_reducible refine branch_tt ?_); conv => whnf) | ((with_reducible refine branch_ff ?_); conv => whnf) | (with_reducible refine branch_not ?_) | ((with_reducible refine slc_e ?_); conv => whnf) | ((with_reducible refine callS_a ?_); conv => whnf) | ((with_reducible refine bld_a ?_); conv => whnf) | ((with_reducible refine own_e ?_); conv => whnf)))
        refine branch_e (fun e1 => ?_) (fun e1 => ?_)
        · rw [contr, if_pos e1] at nx
          (conv => whnf); (repeat (first | (refine arith_i ⟨by omega, by omega⟩ ?_; conv => whnf) | (refine need_i (by first | omega | (simp only [List.length_append, List.length_cons, List.length_nil]; omega)) ?_; conv => whnf) | ((with_reducible refine branch_tt ?_); conv => whnf) | ((with_reducible refine branch_ff ?_); conv => whnf) | (with_reducible refine branch_not ?_) | ((with_reducible refine slc_e ?_); conv => whnf) | ((with_reducible refine callS_a ?_); conv => whnf) | ((with_reducible refine bld_a ?_); conv => whnf) | ((with_reducible refine own_e ?_); conv => whnf)))
          exact ⟨k + 1, by omega, le_mk ⟨rfl, rfl, rfl, rfl, int_eq (by rw [nx]), rfl, rfl, rfl, trivial⟩ ⟨rfl, rfl, rfl, trivial⟩ rfl, by omega⟩
        · rw [contr, if_neg e1] at nx
          (conv => whnf); (repeat (first | (refine arith_i ⟨by omega, by omega⟩ ?_; conv => whnf) | (refine need_i (by first | omega | (simp only [List.length_append, List.length_cons, List.length_nil]; omega)) ?_; conv => whnf) | ((with_reducible refine branch_tt ?_); conv => whnf) | ((with_reducible refine branch_ff ?_); conv => whnf) | (with_reducible refine branch_not ?_) | ((with_reducible refine slc_e ?_); conv => whnf) | ((with_reducible refine callS_a ?_); conv => whnf) | ((with_reducible refine bld_a ?_); conv => whnf) | ((with_reducible refine own_e ?_); conv => whnf)))
          refine branch_e (fun e2 => ?_) (fun e2 => ?_)
          · rw [if_pos e2] at nx
            (conv => whnf); (repeat (first | (refine arith_i ⟨by omega, by omega⟩ ?_; conv => whnf) | (refine need_i (by first | omega | (simp only [List.length_append, List.length_cons, List.length_nil]; omega)) ?_; conv => whnf) | ((with_reducible refine branch_tt ?_); conv => whnf) | ((with_reducible refine branch_ff ?_); conv => whnf) | (with_reducible refine branch_not ?_) | ((with_reducible refine slc_e ?_); conv => whnf) | ((with_reducible refine callS_a ?_); conv => whnf) | ((with_reducible refine bld_a ?_); conv => whnf) | ((with_reducible refine own_e ?_); conv => whnf)))
            exact ⟨k + 1, by omega, le_mk ⟨rfl, rfl, rfl, rfl, int_eq (by rw [nx, min_if]), rfl, rfl, rfl, trivial⟩ ⟨rfl, rfl, rfl, trivial⟩ rfl, by omega⟩
          · rw [if_neg e2, Int.add_zero] at nx
            (conv => whnf); (repeat (first | (refine arith_i ⟨by omega, by omega⟩ ?_; conv => whnf) | (refine need_i (by first | omega | (simp only [List.length_append, List.length_cons, List.length_nil]; omega)) ?_; conv => whnf) | ((with_reducible refine branch_tt ?_); conv => whnf) | ((with_reducible refine branch_ff ?_); conv => whnf) | (with_reducible refine branch_not ?_) | ((with_reducible refine slc_e ?_); conv => whnf) | ((with_reducible refine callS_a ?_); conv => whnf) | ((with_reducible refine bld_a ?_); conv => whnf) | ((with_reducible refine own_e ?_); conv => whnf)))
            exact ⟨k + 1, by omega, le_mk ⟨rfl, rfl, rfl, rfl, int_eq (by rw [nx]), rfl, rfl, rfl, trivial⟩ ⟨rfl, rfl, rfl, trivial⟩ rfl, by omega⟩
      · have hkn : k = P.costs.length := by omega
        subst hkn
        (conv => whnf); (repeat (first | (refine arith_i ⟨by omega, by omega⟩ ?_; conv => whnf) | (refine need_i (by first | omega | (simp only [List.length_append, List.length_cons, List.length_nil]; omega)) ?_; conv => whnf) | ((with_reducible refine branch_tt ?_); conv => whnf) | ((with_reducible refine branch_ff ?_); conv => whnf) | (with_reducible refine branch_not ?_) | ((with_reducible refine slc_e ?_); conv => whnf) | ((with_reducible refine callS_a ?_); conv => whnf) | ((with_reducible refine bld_a ?_); conv => whnf) | ((with_reducible refine own_e ?_); conv => whnf)))
        refine call_e (ceil_ok (totF P st n P.costs.length) n.den (by omega) hd (by have := tdiv_in (a := totF P st n P.costs.length) hd.1; omega)) ?_
        (conv => whnf); (repeat (first | (refine arith_i ⟨by omega, by omega⟩ ?_; conv => whnf) | (refine need_i (by first | omega | (simp only [List.length_append, List.length_cons, List.length_nil]; omega)) ?_; conv => whnf) | ((with_reducible refine branch_tt ?_); conv => whnf) | ((with_reducible refine branch_ff ?_); conv => whnf) | (with_reducible refine branch_not ?_) | ((with_reducible refine slc_e ?_); conv => whnf) | ((with_reducible refine callS_a ?_); conv => whnf) | ((with_reducible refine bld_a ?_); conv => whnf) | ((with_reducible refine own_e ?_); conv => whnf)))
        exact ret_p rfl rfl
end Go.Proofs.Ytbjbhokkdnhfeaa
