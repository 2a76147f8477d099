/- Several texts in one: GL09c, GL09d, Pl10, GL10a, GL09rep, GL09e, GL09f, GL09g, GL09h, GL09i, GL09j, GL10b, GL10c. -/
import Derived.Test.YtiionjpinainlaaW2
import Derived.Test.YtiionjpinainlaaW1
import Derived.Test.YtiionjpinainlaaMC
/- Layer 9 by the interpreter: the bound of a node. -/
section
namespace Go.Proofs.Ytiionjpinainlaa
set_option linter.unusedVariables false
set_option linter.unusedSimpArgs false
set_option linter.unnecessarySimpa false
set_option linter.unusedSectionVars false
set_option maxRecDepth 10000
open Go.RowKit
theorem mul_in {a b : Int} {A B : Nat} (ha : -(A : Int) ≤ a ∧ a ≤ A) (hb : -(B : Int) ≤ b ∧ b ≤ B) : -((A * B : Nat) : Int) ≤ a * b ∧ a * b ≤ ((A * B : Nat) : Int) := by
  have h1 : a.natAbs ≤ A := by omega
  have h2 : b.natAbs ≤ B := by omega
  have h3 := Nat.mul_le_mul h1 h2
  rw [← Int.natAbs_mul] at h3
  omega
def rowOf (P : Prog) (n : Nd) : Row := if n.row < 0 then ⟨List.replicate P.costs.length 0, 0, 0⟩ else rowAt P.rows n.row.toNat
def contr (s v : Int) : Int := if s = 1 then v else if s = -1 then min v 0 else 0
def nodeV (P : Prog) (n : Nd) (i : Nat) : Int := n.den * nth P.costs i - n.num * nth (rowOf P n).coefs i
def startF (P : Prog) (n : Nd) : Int := if n.num < 0 then n.num * (rowOf P n).most else n.num * (rowOf P n).least
def totF (P : Prog) (st : List Int) (n : Nd) (k : Nat) : Int := startF P n + sumN (fun i => contr (nth st i) (nodeV P n i)) k
def boundF (P : Prog) (st : List Int) (n : Nd) : Int := ceilF (totF P st n P.costs.length) n.den
/-- What is known of the row of a bound. -/
structure RowIn (c : Nat) (r : Row) : Prop where
  len : r.coefs.length = c
  co : ∀ i, -10000 ≤ nth r.coefs i ∧ nth r.coefs i ≤ 10000
  le : -1000000 ≤ r.least ∧ r.least ≤ 1000000
  mo : -1000000 ≤ r.most ∧ r.most ≤ 1000000
theorem nth_out {xs : List Int} {i : Nat} (h : xs.length ≤ i) : nth xs i = 0 := by simp [nth, List.getD_eq_getElem?_getD, List.getElem?_eq_none h]
theorem rowIn_of {P : Prog} (hv : validB P = true) {n : Nd} (hb : bndB P.rows.length n = true) : RowIn P.costs.length (rowOf P n) := by
  unfold rowOf
  split
  · refine ⟨by simp, fun i => ?_, by show -1000000 ≤ (0 : Int) ∧ (0 : Int) ≤ 1000000; omega, by show -1000000 ≤ (0 : Int) ∧ (0 : Int) ≤ 1000000; omega⟩
    have : nth (List.replicate P.costs.length 0) i = 0 := by
      simp only [nth, List.getD_eq_getElem?_getD, List.getElem?_replicate]
      split <;> rfl
    simp only [this]
    decide
  · next h0 =>
    have hr : n.row < P.rows.length := by
      simp only [bndB] at hb
      by_cases h1 : n.row = -1
      · omega
      · rw [if_neg h1] at hb
        simp at hb
        omega
    have hlt : n.row.toNat < P.rows.length := by omega
    have hm : rowAt P.rows n.row.toNat ∈ P.rows := by
      rw [rowAt_eq (List.getElem?_eq_getElem hlt)]
      exact List.getElem_mem hlt
    obtain ⟨a, b, c, d⟩ := valid_rows hv hm
    refine ⟨a, fun i => ?_, c, d⟩
    rcases Nat.lt_or_ge i (rowAt P.rows n.row.toNat).coefs.length with h | h
    · exact b i h
    · rw [nth_out h]; decide
theorem node_in {n : Nd} {c : Nat} (hb : bndB c n = true) : (-10000 ≤ n.num ∧ n.num ≤ 10000) ∧ 1 ≤ n.den ∧ n.den ≤ 10000 := by
  simp only [bndB] at hb
  by_cases h1 : n.row = -1
  · rw [if_pos h1] at hb
    simp at hb
    omega
  · rw [if_neg h1] at hb
    simp at hb
    omega
theorem cost_in {P : Prog} (hv : validB P = true) (i : Nat) : 0 ≤ nth P.costs i ∧ nth P.costs i ≤ 10000 := by
  rcases Nat.lt_or_ge i P.costs.length with h | h
  · have h1 := (validB_parts hv).2.2.1
    have h2 := List.all_eq_true.1 h1 _ (List.getElem_mem h)
    have h3 := costB_iff.1 h2
    rw [nth_eq (List.getElem?_eq_getElem h)]
    exact h3
  · rw [nth_out h]; decide
theorem nodeV_in {P : Prog} (hv : validB P = true) {n : Nd} (hb : bndB P.rows.length n = true) (i : Nat) : -200000000 ≤ nodeV P n i ∧ nodeV P n i ≤ 200000000 := by
  obtain ⟨h1, h2⟩ := node_in hb
  have h3 := (rowIn_of hv hb).co i
  have h4 := cost_in hv i
  have m1 := mul_in (a := n.den) (b := nth P.costs i) (A := 10000) (B := 10000) (by omega) (by omega)
  have m2 := mul_in (a := n.num) (b := nth (rowOf P n).coefs i) (A := 10000) (B := 10000) (by omega) (by omega)
  unfold nodeV
  omega
theorem start_in {P : Prog} (hv : validB P = true) {n : Nd} (hb : bndB P.rows.length n = true) : -10000000000 ≤ startF P n ∧ startF P n ≤ 10000000000 := by
  obtain ⟨h1, h2⟩ := node_in hb
  have hr := rowIn_of hv hb
  have h3 := hr.le
  have h4 := hr.mo
  have m1 := mul_in (a := n.num) (b := (rowOf P n).most) (A := 10000) (B := 1000000) (by omega) (by omega)
  have m2 := mul_in (a := n.num) (b := (rowOf P n).least) (A := 10000) (B := 1000000) (by omega) (by omega)
  unfold startF
  split <;> omega
theorem contr_in {s v : Int} (h : -200000000 ≤ v ∧ v ≤ 200000000) : -200000000 ≤ contr s v ∧ contr s v ≤ 200000000 := by
  unfold contr
  split
  · exact h
  · split
    · omega
    · omega
theorem tot_in {P : Prog} (hv : validB P = true) {n : Nd} (hb : bndB P.rows.length n = true) (st : List Int) : ∀ k : Nat, k ≤ 12 → -(10000000000 + 200000000 * (k : Int)) ≤ totF P st n k ∧ totF P st n k ≤ 10000000000 + 200000000 * (k : Int)
  | 0, _ => by
    have := start_in hv hb
    simp only [totF, sumN]
    omega
  | k + 1, hk => by
    have h1 := tot_in hv hb st k (by omega)
    have h2 := contr_in (s := nth st k) (nodeV_in hv hb k)
    simp only [totF, sumN] at h1 ⊢
    omega
theorem min_if {x : Int} : (if 0 < x then 0 else x) = min x 0 := by omega
theorem tdiv_in {a b : Int} (hb : 1 ≤ b) : (a.tdiv b).natAbs ≤ a.natAbs := by
  rw [Int.natAbs_tdiv]; exact Nat.div_le_self _ _
theorem tot_next {P : Prog} {st : List Int} {n : Nd} {k : Nat} : totF P st n (k + 1) = totF P st n k + contr (nth st k) (nodeV P n k) := by
  simp only [totF, sumN]; omega
theorem boundOf_ok (P : Prog) (st : List Int) (n : Nd) (hv : validB P = true) (hs : st.length = P.costs.length) (hb : bndB P.rows.length n = true) : Good Try.prog TT false 73 [progV P, ints st, .agg (encN n)] (· = .int .i64 (boundF P st n)) := by
  have L1 : (P.costs.map encI).length = P.costs.length := List.length_map ..
  have L2 : (P.rows.map encRow).length = P.rows.length := List.length_map ..
  have L3 : (st.map encI).length = st.length := List.length_map ..
  have h12 := (validB_parts hv).1
  have hr := rowIn_of hv hb
  obtain ⟨hn, hd⟩ := node_in hb
  refine good_of_c (fun i => Nat.beq i 4) mixed tabOk Try.func73 rfl rfl Try.ntmps73 Try.results73 rfl rfl ?_
  (conv => whnf); (repeat (first | (refine arith_i ⟨by omega, by omega⟩ ?_; conv => whnf) | (refine need_i (by first | omega | (simp only [List.length_append, List.length_cons, List.length_nil]; omega)) ?_; conv => whnf) | ((with_reducible refine branch_tt ?_); conv => whnf) | ((with_reducible refine branch_ff ?_); conv => whnf) | (with_reducible refine branch_not ?_) | ((with_reducible refine slc_e ?_); conv => whnf) | ((with_reducible refine callS_a ?_); conv => whnf) | ((with_reducible refine bld_a ?_); conv => whnf) | ((with_reducible refine own_e ?_); conv => whnf) | ((with_reducible refine mkmap_b ?_); conv => whnf)))
  refine branch_d (fun h0 => ?_) (fun h0 => ?_)
  · have hlt : n.row < P.rows.length := by
      simp only [bndB] at hb
      by_cases h1 : n.row = -1
      · omega
      · rw [if_neg h1] at hb
        simp at hb
        omega
    (conv => whnf); (repeat (first | (refine arith_i ⟨by omega, by omega⟩ ?_; conv => whnf) | (refine need_i (by first | omega | (simp only [List.length_append, List.length_cons, List.length_nil]; omega)) ?_; conv => whnf) | ((with_reducible refine branch_tt ?_); conv => whnf) | ((with_reducible refine branch_ff ?_); conv => whnf) | (with_reducible refine branch_not ?_) | ((with_reducible refine slc_e ?_); conv => whnf) | ((with_reducible refine callS_a ?_); conv => whnf) | ((with_reducible refine bld_a ?_); conv => whnf) | ((with_reducible refine own_e ?_); conv => whnf) | ((with_reducible refine mkmap_b ?_); conv => whnf)))
    refine idx_m (by omega) (by omega) fun r hrr => ?_
    have er : rowOf P n = r := by rw [rowOf, if_neg (by omega), rowAt_eq hrr]
    (conv => whnf); (repeat (first | (refine arith_i ⟨by omega, by omega⟩ ?_; conv => whnf) | (refine need_i (by first | omega | (simp only [List.length_append, List.length_cons, List.length_nil]; omega)) ?_; conv => whnf) | ((with_reducible refine branch_tt ?_); conv => whnf) | ((with_reducible refine branch_ff ?_); conv => whnf) | (with_reducible refine branch_not ?_) | ((with_reducible refine slc_e ?_); conv => whnf) | ((with_reducible refine callS_a ?_); conv => whnf) | ((with_reducible refine bld_a ?_); conv => whnf) | ((with_reducible refine own_e ?_); conv => whnf) | ((with_reducible refine mkmap_b ?_); conv => whnf)))
    refine rest_i (mkSt [(1, ints st), (3, .ptr 3 0), (5, .ptr 5 0), (7, .ptr 7 0)] [(3, [ints P.costs, rowsV P.rows]), (5, encN n), (7, encRow (rowOf P n))] false) (le_mk ⟨rfl, rfl, rfl, rfl, trivial⟩ ⟨rfl, rfl, by rw [er]; rfl, trivial⟩ rfl) ?_
    (conv => whnf); (repeat (first | (refine arith_i ⟨by omega, by omega⟩ ?_; conv => whnf) | (refine need_i (by first | omega | (simp only [List.length_append, List.length_cons, List.length_nil]; omega)) ?_; conv => whnf) | ((with_reducible refine branch_tt ?_); conv => whnf) | ((with_reducible refine branch_ff ?_); conv => whnf) | (with_reducible refine branch_not ?_) | ((with_reducible refine slc_e ?_); conv => whnf) | ((with_reducible refine callS_a ?_); conv => whnf) | ((with_reducible refine bld_a ?_); conv => whnf) | ((with_reducible refine own_e ?_); conv => whnf) | ((with_reducible refine mkmap_b ?_); conv => whnf)))
    have m1 := mul_in (a := n.num) (b := (rowOf P n).least) (A := 10000) (B := 1000000) (by omega) (by have := hr.le; omega)
    have m2 := mul_in (a := n.num) (b := (rowOf P n).most) (A := 10000) (B := 1000000) (by omega) (by have := hr.mo; omega)
    refine arith_i (by omega) ?_
    (conv => whnf); (repeat (first | (refine arith_i ⟨by omega, by omega⟩ ?_; conv => whnf) | (refine need_i (by first | omega | (simp only [List.length_append, List.length_cons, List.length_nil]; omega)) ?_; conv => whnf) | ((with_reducible refine branch_tt ?_); conv => whnf) | ((with_reducible refine branch_ff ?_); conv => whnf) | (with_reducible refine branch_not ?_) | ((with_reducible refine slc_e ?_); conv => whnf) | ((with_reducible refine callS_a ?_); conv => whnf) | ((with_reducible refine bld_a ?_); conv => whnf) | ((with_reducible refine own_e ?_); conv => whnf) | ((with_reducible refine mkmap_b ?_); conv => whnf)))
    have fin : ∀ t : Int, t = startF P n → True := fun _ _ => trivial
    refine branch_d (fun hneg => ?_) (fun hneg => ?_)
    · (conv => whnf); (repeat (first | (refine arith_i ⟨by omega, by omega⟩ ?_; conv => whnf) | (refine need_i (by first | omega | (simp only [List.length_append, List.length_cons, List.length_nil]; omega)) ?_; conv => whnf) | ((with_reducible refine branch_tt ?_); conv => whnf) | ((with_reducible refine branch_ff ?_); conv => whnf) | (with_reducible refine branch_not ?_) | ((with_reducible refine slc_e ?_); conv => whnf) | ((with_reducible refine callS_a ?_); conv => whnf) | ((with_reducible refine bld_a ?_); conv => whnf) | ((with_reducible refine own_e ?_); conv => whnf) | ((with_reducible refine mkmap_b ?_); conv => whnf)))
      refine loop_i (fun k : Nat => k ≤ P.costs.length) (fun k => mkSt [(1, ints st), (3, .ptr 3 0), (5, .ptr 5 0), (7, .ptr 7 0), (8, .int .i64 (totF P st n k)), (40, ints P.costs), (41, .int .i64 (P.costs.map encI).length), (42, .int .i64 k)] [(3, [ints P.costs, rowsV P.rows]), (5, encN n), (7, encRow (rowOf P n))] false) (fun k => P.costs.length - k) 0 (Nat.zero_le _) (le_mk ⟨rfl, rfl, rfl, rfl, int_eq (by simp [totF, sumN, startF, hneg]), rfl, rfl, rfl, trivial⟩ ⟨rfl, rfl, rfl, trivial⟩ rfl) ?_
      intro k hk
      have ht := tot_in hv hb st k (by omega)
      have hnv := nodeV_in hv hb k
      have hco := hr.co k
      have hcs := cost_in hv k
      have Lc : ((rowOf P n).coefs.map encI).length = (rowOf P n).coefs.length := List.length_map ..
      have Lc2 := hr.len
      (conv => whnf); (repeat (first | (refine arith_i ⟨by omega, by omega⟩ ?_; conv => whnf) | (refine need_i (by first | omega | (simp only [List.length_append, List.length_cons, List.length_nil]; omega)) ?_; conv => whnf) | ((with_reducible refine branch_tt ?_); conv => whnf) | ((with_reducible refine branch_ff ?_); conv => whnf) | (with_reducible refine branch_not ?_) | ((with_reducible refine slc_e ?_); conv => whnf) | ((with_reducible refine callS_a ?_); conv => whnf) | ((with_reducible refine bld_a ?_); conv => whnf) | ((with_reducible refine own_e ?_); conv => whnf) | ((with_reducible refine mkmap_b ?_); conv => whnf)))
      refine branch_d (fun h => ?_) (fun h => ?_)
      · (conv => whnf); (repeat (first | (refine arith_i ⟨by omega, by omega⟩ ?_; conv => whnf) | (refine need_i (by first | omega | (simp only [List.length_append, List.length_cons, List.length_nil]; omega)) ?_; conv => whnf) | ((with_reducible refine branch_tt ?_); conv => whnf) | ((with_reducible refine branch_ff ?_); conv => whnf) | (with_reducible refine branch_not ?_) | ((with_reducible refine slc_e ?_); conv => whnf) | ((with_reducible refine callS_a ?_); conv => whnf) | ((with_reducible refine bld_a ?_); conv => whnf) | ((with_reducible refine own_e ?_); conv => whnf) | ((with_reducible refine mkmap_b ?_); conv => whnf)))
        refine idx_m (by omega) (by omega) fun c hc => ?_
        rw [Int.toNat_natCast] at hc
        have ec := nth_eq hc
        have q1 := mul_in (a := n.den) (b := c) (A := 10000) (B := 10000) (by omega) (by omega)
        (conv => whnf); (repeat (first | (refine arith_i ⟨by omega, by omega⟩ ?_; conv => whnf) | (refine need_i (by first | omega | (simp only [List.length_append, List.length_cons, List.length_nil]; omega)) ?_; conv => whnf) | ((with_reducible refine branch_tt ?_); conv => whnf) | ((with_reducible refine branch_ff ?_); conv => whnf) | (with_reducible refine branch_not ?_) | ((with_reducible refine slc_e ?_); conv => whnf) | ((with_reducible refine callS_a ?_); conv => whnf) | ((with_reducible refine bld_a ?_); conv => whnf) | ((with_reducible refine own_e ?_); conv => whnf) | ((with_reducible refine mkmap_b ?_); conv => whnf)))
        refine draw_i 14 (.take 0 (.take 1 (.take 2 (.take 3 (.take 4 (.take 5 (.take 6 (.take 7 (.take 8 (.take 9 (.take 10 (.take 11 (.take 12 (.take 13 .done)))))))))))))) (by decide +kernel) ?_
        (conv => whnf); (repeat (first | (refine arith_i ⟨by omega, by omega⟩ ?_; conv => whnf) | (refine need_i (by first | omega | (simp only [List.length_append, List.length_cons, List.length_nil]; omega)) ?_; conv => whnf) | ((with_reducible refine branch_tt ?_); conv => whnf) | ((with_reducible refine branch_ff ?_); conv => whnf) | (with_reducible refine branch_not ?_) | ((with_reducible refine slc_e ?_); conv => whnf) | ((with_reducible refine callS_a ?_); conv => whnf) | ((with_reducible refine bld_a ?_); conv => whnf) | ((with_reducible refine own_e ?_); conv => whnf) | ((with_reducible refine mkmap_b ?_); conv => whnf)))
        refine idx_m (by omega) (by omega) fun co hco2 => ?_
        rw [Int.toNat_natCast] at hco2
        have eco := nth_eq hco2
        have q2 := mul_in (a := n.num) (b := co) (A := 10000) (B := 10000) (by omega) (by omega)
        have env : nodeV P n k = n.den * c - n.num * co := by rw [nodeV, ec, eco]
        (conv => whnf); (repeat (first | (refine arith_i ⟨by omega, by omega⟩ ?_; conv => whnf) | (refine need_i (by first | omega | (simp only [List.length_append, List.length_cons, List.length_nil]; omega)) ?_; conv => whnf) | ((with_reducible refine branch_tt ?_); conv => whnf) | ((with_reducible refine branch_ff ?_); conv => whnf) | (with_reducible refine branch_not ?_) | ((with_reducible refine slc_e ?_); conv => whnf) | ((with_reducible refine callS_a ?_); conv => whnf) | ((with_reducible refine bld_a ?_); conv => whnf) | ((with_reducible refine own_e ?_); conv => whnf) | ((with_reducible refine mkmap_b ?_); conv => whnf)))
        refine idx_m (by omega) (by omega) fun sx hsx => ?_
        rw [Int.toNat_natCast] at hsx
        have esx := nth_eq hsx
        have nx := tot_next (P := P) (st := st) (n := n) (k := k)
        rw [esx, env] at nx
        (conv => whnf); (repeat (first | (refine arith_i ⟨by omega, by omega⟩ ?_; conv => whnf) | (refine need_i (by first | omega | (simp only [List.length_append, List.length_cons, List.length_nil]; omega)) ?_; conv => whnf) | ((with_reducible refine branch_tt ?_); conv => whnf) | ((with_reducible refine branch_ff ?_); conv => whnf) | (with_reducible refine branch_not ?_) | ((with_reducible refine slc_e ?_); conv => whnf) | ((with_reducible refine callS_a ?_); conv => whnf) | ((with_reducible refine bld_a ?_); conv => whnf) | ((with_reducible refine own_e ?_); conv => whnf) | ((with_reducible refine mkmap_b ?_); conv => whnf)))
        refine branch_e (fun e1 => ?_) (fun e1 => ?_)
        · rw [contr, if_pos e1] at nx
          (conv => whnf); (repeat (first | (refine arith_i ⟨by omega, by omega⟩ ?_; conv => whnf) | (refine need_i (by first | omega | (simp only [List.length_append, List.length_cons, List.length_nil]; omega)) ?_; conv => whnf) | ((with_reducible refine branch_tt ?_); conv => whnf) | ((with_reducible refine branch_ff ?_); conv => whnf) | (with_reducible refine branch_not ?_) | ((with_reducible refine slc_e ?_); conv => whnf) | ((with_reducible refine callS_a ?_); conv => whnf) | ((with_reducible refine bld_a ?_); conv => whnf) | ((with_reducible refine own_e ?_); conv => whnf) | ((with_reducible refine mkmap_b ?_); conv => whnf)))
          exact ⟨k + 1, by omega, le_mk ⟨rfl, rfl, rfl, rfl, int_eq (by rw [nx]), rfl, rfl, rfl, trivial⟩ ⟨rfl, rfl, rfl, trivial⟩ rfl, by omega⟩
        · rw [contr, if_neg e1] at nx
          (conv => whnf); (repeat (first | (refine arith_i ⟨by omega, by omega⟩ ?_; conv => whnf) | (refine need_i (by first | omega | (simp only [List.length_append, List.length_cons, List.length_nil]; omega)) ?_; conv => whnf) | ((with_reducible refine branch_tt ?_); conv => whnf) | ((with_reducible refine branch_ff ?_); conv => whnf) | (with_reducible refine branch_not ?_) | ((with_reducible refine slc_e ?_); conv => whnf) | ((with_reducible refine callS_a ?_); conv => whnf) | ((with_reducible refine bld_a ?_); conv => whnf) | ((with_reducible refine own_e ?_); conv => whnf) | ((with_reducible refine mkmap_b ?_); conv => whnf)))
          refine branch_e (fun e2 => ?_) (fun e2 => ?_)
          · rw [if_pos e2] at nx
            (conv => whnf); (repeat (first | (refine arith_i ⟨by omega, by omega⟩ ?_; conv => whnf) | (refine need_i (by first | omega | (simp only [List.length_append, List.length_cons, List.length_nil]; omega)) ?_; conv => whnf) | ((with_reducible refine branch_tt ?_); conv => whnf) | ((with_reducible refine branch_ff ?_); conv => whnf) | (with_reducible refine branch_not ?_) | ((with_reducible refine slc_e ?_); conv => whnf) | ((with_reducible refine callS_a ?_); conv => whnf) | ((with_reducible refine bld_a ?_); conv => whnf) | ((with_reducible refine own_e ?_); conv => whnf) | ((with_reducible refine mkmap_b ?_); conv => whnf)))
            exact ⟨k + 1, by omega, le_mk ⟨rfl, rfl, rfl, rfl, int_eq (by rw [nx, min_if]), rfl, rfl, rfl, trivial⟩ ⟨rfl, rfl, rfl, trivial⟩ rfl, by omega⟩
          · rw [if_neg e2, Int.add_zero] at nx
            (conv => whnf); (repeat (first | (refine arith_i ⟨by omega, by omega⟩ ?_; conv => whnf) | (refine need_i (by first | omega | (simp only [List.length_append, List.length_cons, List.length_nil]; omega)) ?_; conv => whnf) | ((with_reducible refine branch_tt ?_); conv => whnf) | ((with_reducible refine branch_ff ?_); conv => whnf) | (with_reducible refine branch_not ?_) | ((with_reducible refine slc_e ?_); conv => whnf) | ((with_reducible refine callS_a ?_); conv => whnf) | ((with_reducible refine bld_a ?_); conv => whnf) | ((with_reducible refine own_e ?_); conv => whnf) | ((with_reducible refine mkmap_b ?_); conv => whnf)))
            exact ⟨k + 1, by omega, le_mk ⟨rfl, rfl, rfl, rfl, int_eq (by rw [nx]), rfl, rfl, rfl, trivial⟩ ⟨rfl, rfl, rfl, trivial⟩ rfl, by omega⟩
      · have hkn : k = P.costs.length := by omega
        subst hkn
        (conv => whnf); (repeat (first | (refine arith_i ⟨by omega, by omega⟩ ?_; conv => whnf) | (refine need_i (by first | omega | (simp only [List.length_append, List.length_cons, List.length_nil]; omega)) ?_; conv => whnf) | ((with_reducible refine branch_tt ?_); conv => whnf) | ((with_reducible refine branch_ff ?_); conv => whnf) | (with_reducible refine branch_not ?_) | ((with_reducible refine slc_e ?_); conv => whnf) | ((with_reducible refine callS_a ?_); conv => whnf) | ((with_reducible refine bld_a ?_); conv => whnf) | ((with_reducible refine own_e ?_); conv => whnf) | ((with_reducible refine mkmap_b ?_); conv => whnf)))
        refine call_e (ceil_ok (totF P st n P.costs.length) n.den (by omega) hd (by have := tdiv_in (a := totF P st n P.costs.length) hd.1; omega)) ?_
        (conv => whnf); (repeat (first | (refine arith_i ⟨by omega, by omega⟩ ?_; conv => whnf) | (refine need_i (by first | omega | (simp only [List.length_append, List.length_cons, List.length_nil]; omega)) ?_; conv => whnf) | ((with_reducible refine branch_tt ?_); conv => whnf) | ((with_reducible refine branch_ff ?_); conv => whnf) | (with_reducible refine branch_not ?_) | ((with_reducible refine slc_e ?_); conv => whnf) | ((with_reducible refine callS_a ?_); conv => whnf) | ((with_reducible refine bld_a ?_); conv => whnf) | ((with_reducible refine own_e ?_); conv => whnf) | ((with_reducible refine mkmap_b ?_); conv => whnf)))
        exact ret_p rfl rfl
    · (conv => whnf); (repeat (first | (refine arith_i ⟨by omega, by omega⟩ ?_; conv => whnf) | (refine need_i (by first | omega | (simp only [List.length_append, List.length_cons, List.length_nil]; omega)) ?_; conv => whnf) | ((with_reducible refine branch_tt ?_); conv => whnf) | ((with_reducible refine branch_ff ?_); conv => whnf) | (with_reducible refine branch_not ?_) | ((with_reducible refine slc_e ?_); conv => whnf) | ((with_reducible refine callS_a ?_); conv => whnf) | ((with_reducible refine bld_a ?_); conv => whnf) | ((with_reducible refine own_e ?_); conv => whnf) | ((with_reducible refine mkmap_b ?_); conv => whnf)))
      refine loop_i (fun k : Nat => k ≤ P.costs.length) (fun k => mkSt [(1, ints st), (3, .ptr 3 0), (5, .ptr 5 0), (7, .ptr 7 0), (8, .int .i64 (totF P st n k)), (40, ints P.costs), (41, .int .i64 (P.costs.map encI).length), (42, .int .i64 k)] [(3, [ints P.costs, rowsV P.rows]), (5, encN n), (7, encRow (rowOf P n))] false) (fun k => P.costs.length - k) 0 (Nat.zero_le _) (le_mk ⟨rfl, rfl, rfl, rfl, int_eq (by simp [totF, sumN, startF, hneg]), rfl, rfl, rfl, trivial⟩ ⟨rfl, rfl, rfl, trivial⟩ rfl) ?_
      intro k hk
      have ht := tot_in hv hb st k (by omega)
      have hnv := nodeV_in hv hb k
      have hco := hr.co k
      have hcs := cost_in hv k
      have Lc : ((rowOf P n).coefs.map encI).length = (rowOf P n).coefs.length := List.length_map ..
      have Lc2 := hr.len
      (conv => whnf); (repeat (first | (refine arith_i ⟨by omega, by omega⟩ ?_; conv => whnf) | (refine need_i (by first | omega | (simp only [List.length_append, List.length_cons, List.length_nil]; omega)) ?_; conv => whnf) | ((with_reducible refine branch_tt ?_); conv => whnf) | ((with_reducible refine branch_ff ?_); conv => whnf) | (with_reducible refine branch_not ?_) | ((with_reducible refine slc_e ?_); conv => whnf) | ((with_reducible refine callS_a ?_); conv => whnf) | ((with_reducible refine bld_a ?_); conv => whnf) | ((with_reducible refine own_e ?_); conv => whnf) | ((with_reducible refine mkmap_b ?_); conv => whnf)))
      refine branch_d (fun h => ?_) (fun h => ?_)
      · (conv => whnf); (repeat (first | (refine arith_i ⟨by omega, by omega⟩ ?_; conv => whnf) | (refine need_i (by first | omega | (simp only [List.length_append, List.length_cons, List.length_nil]; omega)) ?_; conv => whnf) | ((with_reducible refine branch_tt ?_); conv => whnf) | ((with_reducible refine branch_ff ?_); conv => whnf) | (with_reducible refine branch_not ?_) | ((with_reducible refine slc_e ?_); conv => whnf) | ((with_reducible refine callS_a ?_); conv => whnf) | ((with_reducible refine bld_a ?_); conv => whnf) | ((with_reducible refine own_e ?_); conv => whnf) | ((with_reducible refine mkmap_b ?_); conv => whnf)))
        refine idx_m (by omega) (by omega) fun c hc => ?_
        rw [Int.toNat_natCast] at hc
        have ec := nth_eq hc
        have q1 := mul_in (a := n.den) (b := c) (A := 10000) (B := 10000) (by omega) (by omega)
        (conv => whnf); (repeat (first | (refine arith_i ⟨by omega, by omega⟩ ?_; conv => whnf) | (refine need_i (by first | omega | (simp only [List.length_append, List.length_cons, List.length_nil]; omega)) ?_; conv => whnf) | ((with_reducible refine branch_tt ?_); conv => whnf) | ((with_reducible refine branch_ff ?_); conv => whnf) | (with_reducible refine branch_not ?_) | ((with_reducible refine slc_e ?_); conv => whnf) | ((with_reducible refine callS_a ?_); conv => whnf) | ((with_reducible refine bld_a ?_); conv => whnf) | ((with_reducible refine own_e ?_); conv => whnf) | ((with_reducible refine mkmap_b ?_); conv => whnf)))
        refine draw_i 14 (.take 0 (.take 1 (.take 2 (.take 3 (.take 4 (.take 5 (.take 6 (.take 7 (.take 8 (.take 9 (.take 10 (.take 11 (.take 12 (.take 13 .done)))))))))))))) (by decide +kernel) ?_
        (conv => whnf); (repeat (first | (refine arith_i ⟨by omega, by omega⟩ ?_; conv => whnf) | (refine need_i (by first | omega | (simp only [List.length_append, List.length_cons, List.length_nil]; omega)) ?_; conv => whnf) | ((with_reducible refine branch_tt ?_); conv => whnf) | ((with_reducible refine branch_ff ?_); conv => whnf) | (with_reducible refine branch_not ?_) | ((with_reducible refine slc_e ?_); conv => whnf) | ((with_reducible refine callS_a ?_); conv => whnf) | ((with_reducible refine bld_a ?_); conv => whnf) | ((with_reducible refine own_e ?_); conv => whnf) | ((with_reducible refine mkmap_b ?_); conv => whnf)))
        refine idx_m (by omega) (by omega) fun co hco2 => ?_
        rw [Int.toNat_natCast] at hco2
        have eco := nth_eq hco2
        have q2 := mul_in (a := n.num) (b := co) (A := 10000) (B := 10000) (by omega) (by omega)
        have env : nodeV P n k = n.den * c - n.num * co := by rw [nodeV, ec, eco]
        (conv => whnf); (repeat (first | (refine arith_i ⟨by omega, by omega⟩ ?_; conv => whnf) | (refine need_i (by first | omega | (simp only [List.length_append, List.length_cons, List.length_nil]; omega)) ?_; conv => whnf) | ((with_reducible refine branch_tt ?_); conv => whnf) | ((with_reducible refine branch_ff ?_); conv => whnf) | (with_reducible refine branch_not ?_) | ((with_reducible refine slc_e ?_); conv => whnf) | ((with_reducible refine callS_a ?_); conv => whnf) | ((with_reducible refine bld_a ?_); conv => whnf) | ((with_reducible refine own_e ?_); conv => whnf) | ((with_reducible refine mkmap_b ?_); conv => whnf)))
        refine idx_m (by omega) (by omega) fun sx hsx => ?_
        rw [Int.toNat_natCast] at hsx
        have esx := nth_eq hsx
        have nx := tot_next (P := P) (st := st) (n := n) (k := k)
        rw [esx, env] at nx
        (conv => whnf); (repeat (first | (refine arith_i ⟨by omega, by omega⟩ ?_; conv => whnf) | (refine need_i (by first | omega | (simp only [List.length_append, List.length_cons, List.length_nil]; omega)) ?_; conv => whnf) | ((with_reducible refine branch_tt ?_); conv => whnf) | ((with_reducible refine branch_ff ?_); conv => whnf) | (with_reducible refine branch_not ?_) | ((with_reducible refine slc_e ?_); conv => whnf) | ((with_reducible refine callS_a ?_); conv => whnf) | ((with_reducible refine bld_a ?_); conv => whnf) | ((with_reducible refine own_e ?_); conv => whnf) | ((with_reducible refine mkmap_b ?_); conv => whnf)))
        refine branch_e (fun e1 => ?_) (fun e1 => ?_)
        · rw [contr, if_pos e1] at nx
          (conv => whnf); (repeat (first | (refine arith_i ⟨by omega, by omega⟩ ?_; conv => whnf) | (refine need_i (by first | omega | (simp only [List.length_append, List.length_cons, List.length_nil]; omega)) ?_; conv => whnf) | ((with_reducible refine branch_tt ?_); conv => whnf) | ((with_reducible refine branch_ff ?_); conv => whnf) | (with_reducible refine branch_not ?_) | ((with_reducible refine slc_e ?_); conv => whnf) | ((with_reducible refine callS_a ?_); conv => whnf) | ((with_reducible refine bld_a ?_); conv => whnf) | ((with_reducible refine own_e ?_); conv => whnf) | ((with_reducible refine mkmap_b ?_); conv => whnf)))
          exact ⟨k + 1, by omega, le_mk ⟨rfl, rfl, rfl, rfl, int_eq (by rw [nx]), rfl, rfl, rfl, trivial⟩ ⟨rfl, rfl, rfl, trivial⟩ rfl, by omega⟩
        · rw [contr, if_neg e1] at nx
          (conv => whnf); (repeat (first | (refine arith_i ⟨by omega, by omega⟩ ?_; conv => whnf) | (refine need_i (by first | omega | (simp only [List.length_append, List.length_cons, List.length_nil]; omega)) ?_; conv => whnf) | ((with_reducible refine branch_tt ?_); conv => whnf) | ((with_reducible refine branch_ff ?_); conv => whnf) | (with_reducible refine branch_not ?_) | ((with_reducible refine slc_e ?_); conv => whnf) | ((with_reducible refine callS_a ?_); conv => whnf) | ((with_reducible refine bld_a ?_); conv => whnf) | ((with_reducible refine own_e ?_); conv => whnf) | ((with_reducible refine mkmap_b ?_); conv => whnf)))
          refine branch_e (fun e2 => ?_) (fun e2 => ?_)
          · rw [if_pos e2] at nx
            (conv => whnf); (repeat (first | (refine arith_i ⟨by omega, by omega⟩ ?_; conv => whnf) | (refine need_i (by first | omega | (simp only [List.length_append, List.length_cons, List.length_nil]; omega)) ?_; conv => whnf) | ((with_reducible refine branch_tt ?_); conv => whnf) | ((with_reducible refine branch_ff ?_); conv => whnf) | (with_reducible refine branch_not ?_) | ((with_reducible refine slc_e ?_); conv => whnf) | ((with_reducible refine callS_a ?_); conv => whnf) | ((with_reducible refine bld_a ?_); conv => whnf) | ((with_reducible refine own_e ?_); conv => whnf) | ((with_reducible refine mkmap_b ?_); conv => whnf)))
            exact ⟨k + 1, by omega, le_mk ⟨rfl, rfl, rfl, rfl, int_eq (by rw [nx, min_if]), rfl, rfl, rfl, trivial⟩ ⟨rfl, rfl, rfl, trivial⟩ rfl, by omega⟩
          · rw [if_neg e2, Int.add_zero] at nx
            (conv => whnf); (repeat (first | (refine arith_i ⟨by omega, by omega⟩ ?_; conv => whnf) | (refine need_i (by first | omega | (simp only [List.length_append, List.length_cons, List.length_nil]; omega)) ?_; conv => whnf) | ((with_reducible refine branch_tt ?_); conv => whnf) | ((with_reducible refine branch_ff ?_); conv => whnf) | (with_reducible refine branch_not ?_) | ((with_reducible refine slc_e ?_); conv => whnf) | ((with_reducible refine callS_a ?_); conv => whnf) | ((with_reducible refine bld_a ?_); conv => whnf) | ((with_reducible refine own_e ?_); conv => whnf) | ((with_reducible refine mkmap_b ?_); conv => whnf)))
            exact ⟨k + 1, by omega, le_mk ⟨rfl, rfl, rfl, rfl, int_eq (by rw [nx]), rfl, rfl, rfl, trivial⟩ ⟨rfl, rfl, rfl, trivial⟩ rfl, by omega⟩
      · have hkn : k = P.costs.length := by omega
        subst hkn
        (conv => whnf); (repeat (first | (refine arith_i ⟨by omega, by omega⟩ ?_; conv => whnf) | (refine need_i (by first | omega | (simp only [List.length_append, List.length_cons, List.length_nil]; omega)) ?_; conv => whnf) | ((with_reducible refine branch_tt ?_); conv => whnf) | ((with_reducible refine branch_ff ?_); conv => whnf) | (with_reducible refine branch_not ?_) | ((with_reducible refine slc_e ?_); conv => whnf) | ((with_reducible refine callS_a ?_); conv => whnf) | ((with_reducible refine bld_a ?_); conv => whnf) | ((with_reducible refine own_e ?_); conv => whnf) | ((with_reducible refine mkmap_b ?_); conv => whnf)))
        refine call_e (ceil_ok (totF P st n P.costs.length) n.den (by omega) hd (by have := tdiv_in (a := totF P st n P.costs.length) hd.1; omega)) ?_
        (conv => whnf); (repeat (first | (refine arith_i ⟨by omega, by omega⟩ ?_; conv => whnf) | (refine need_i (by first | omega | (simp only [List.length_append, List.length_cons, List.length_nil]; omega)) ?_; conv => whnf) | ((with_reducible refine branch_tt ?_); conv => whnf) | ((with_reducible refine branch_ff ?_); conv => whnf) | (with_reducible refine branch_not ?_) | ((with_reducible refine slc_e ?_); conv => whnf) | ((with_reducible refine callS_a ?_); conv => whnf) | ((with_reducible refine bld_a ?_); conv => whnf) | ((with_reducible refine own_e ?_); conv => whnf) | ((with_reducible refine mkmap_b ?_); conv => whnf)))
        exact ret_p rfl rfl
  · have er : encRow (rowOf P n) = [.lst 1 (List.replicate (P.costs.map encI).length [.int .i64 0]), .int .i64 0, .int .i64 0] := by
      rw [rowOf, if_pos (by omega), L1]
      simp [encRow, ints, encI, List.map_replicate]
    (conv => whnf); (repeat (first | (refine arith_i ⟨by omega, by omega⟩ ?_; conv => whnf) | (refine need_i (by first | omega | (simp only [List.length_append, List.length_cons, List.length_nil]; omega)) ?_; conv => whnf) | ((with_reducible refine branch_tt ?_); conv => whnf) | ((with_reducible refine branch_ff ?_); conv => whnf) | (with_reducible refine branch_not ?_) | ((with_reducible refine slc_e ?_); conv => whnf) | ((with_reducible refine callS_a ?_); conv => whnf) | ((with_reducible refine bld_a ?_); conv => whnf) | ((with_reducible refine own_e ?_); conv => whnf) | ((with_reducible refine mkmap_b ?_); conv => whnf)))
    refine rest_i (mkSt [(1, ints st), (3, .ptr 3 0), (5, .ptr 5 0), (7, .ptr 7 0)] [(3, [ints P.costs, rowsV P.rows]), (5, encN n), (7, encRow (rowOf P n))] false) (Le.trans (le_erase 15) (le_mk ⟨rfl, rfl, rfl, rfl, trivial⟩ ⟨rfl, rfl, by rw [er]; rfl, trivial⟩ rfl)) ?_
    (conv => whnf); (repeat (first | (refine arith_i ⟨by omega, by omega⟩ ?_; conv => whnf) | (refine need_i (by first | omega | (simp only [List.length_append, List.length_cons, List.length_nil]; omega)) ?_; conv => whnf) | ((with_reducible refine branch_tt ?_); conv => whnf) | ((with_reducible refine branch_ff ?_); conv => whnf) | (with_reducible refine branch_not ?_) | ((with_reducible refine slc_e ?_); conv => whnf) | ((with_reducible refine callS_a ?_); conv => whnf) | ((with_reducible refine bld_a ?_); conv => whnf) | ((with_reducible refine own_e ?_); conv => whnf) | ((with_reducible refine mkmap_b ?_); conv => whnf)))
    have m1 := mul_in (a := n.num) (b := (rowOf P n).least) (A := 10000) (B := 1000000) (by omega) (by have := hr.le; omega)
    have m2 := mul_in (a := n.num) (b := (rowOf P n).most) (A := 10000) (B := 1000000) (by omega) (by have := hr.mo; omega)
    refine arith_i (by omega) ?_
    (conv => whnf); (repeat (first | (refine arith_i ⟨by omega, by omega⟩ ?_; conv => whnf) | (refine need_i (by first | omega | (simp only [List.length_append, List.length_cons, List.length_nil]; omega)) ?_; conv => whnf) | ((with_reducible refine branch_tt ?_); conv => whnf) | ((with_reducible refine branch_ff ?_); conv => whnf) | (with_reducible refine branch_not ?_) | ((with_reducible refine slc_e ?_); conv => whnf) | ((with_reducible refine callS_a ?_); conv => whnf) | ((with_reducible refine bld_a ?_); conv => whnf) | ((with_reducible refine own_e ?_); conv => whnf) | ((with_reducible refine mkmap_b ?_); conv => whnf)))
    have fin : ∀ t : Int, t = startF P n → True := fun _ _ => trivial
    refine branch_d (fun hneg => ?_) (fun hneg => ?_)
    · (conv => whnf); (repeat (first | (refine arith_i ⟨by omega, by omega⟩ ?_; conv => whnf) | (refine need_i (by first | omega | (simp only [List.length_append, List.length_cons, List.length_nil]; omega)) ?_; conv => whnf) | ((with_reducible refine branch_tt ?_); conv => whnf) | ((with_reducible refine branch_ff ?_); conv => whnf) | (with_reducible refine branch_not ?_) | ((with_reducible refine slc_e ?_); conv => whnf) | ((with_reducible refine callS_a ?_); conv => whnf) | ((with_reducible refine bld_a ?_); conv => whnf) | ((with_reducible refine own_e ?_); conv => whnf) | ((with_reducible refine mkmap_b ?_); conv => whnf)))
      refine loop_i (fun k : Nat => k ≤ P.costs.length) (fun k => mkSt [(1, ints st), (3, .ptr 3 0), (5, .ptr 5 0), (7, .ptr 7 0), (8, .int .i64 (totF P st n k)), (40, ints P.costs), (41, .int .i64 (P.costs.map encI).length), (42, .int .i64 k)] [(3, [ints P.costs, rowsV P.rows]), (5, encN n), (7, encRow (rowOf P n))] false) (fun k => P.costs.length - k) 0 (Nat.zero_le _) (le_mk ⟨rfl, rfl, rfl, rfl, int_eq (by simp [totF, sumN, startF, hneg]), rfl, rfl, rfl, trivial⟩ ⟨rfl, rfl, rfl, trivial⟩ rfl) ?_
      intro k hk
      have ht := tot_in hv hb st k (by omega)
      have hnv := nodeV_in hv hb k
      have hco := hr.co k
      have hcs := cost_in hv k
      have Lc : ((rowOf P n).coefs.map encI).length = (rowOf P n).coefs.length := List.length_map ..
      have Lc2 := hr.len
      (conv => whnf); (repeat (first | (refine arith_i ⟨by omega, by omega⟩ ?_; conv => whnf) | (refine need_i (by first | omega | (simp only [List.length_append, List.length_cons, List.length_nil]; omega)) ?_; conv => whnf) | ((with_reducible refine branch_tt ?_); conv => whnf) | ((with_reducible refine branch_ff ?_); conv => whnf) | (with_reducible refine branch_not ?_) | ((with_reducible refine slc_e ?_); conv => whnf) | ((with_reducible refine callS_a ?_); conv => whnf) | ((with_reducible refine bld_a ?_); conv => whnf) | ((with_reducible refine own_e ?_); conv => whnf) | ((with_reducible refine mkmap_b ?_); conv => whnf)))
      refine branch_d (fun h => ?_) (fun h => ?_)
      · (conv => whnf); (repeat (first | (refine arith_i ⟨by omega, by omega⟩ ?_; conv => whnf) | (refine need_i (by first | omega | (simp only [List.length_append, List.length_cons, List.length_nil]; omega)) ?_; conv => whnf) | ((with_reducible refine branch_tt ?_); conv => whnf) | ((with_reducible refine branch_ff ?_); conv => whnf) | (with_reducible refine branch_not ?_) | ((with_reducible refine slc_e ?_); conv => whnf) | ((with_reducible refine callS_a ?_); conv => whnf) | ((with_reducible refine bld_a ?_); conv => whnf) | ((with_reducible refine own_e ?_); conv => whnf) | ((with_reducible refine mkmap_b ?_); conv => whnf)))
        refine idx_m (by omega) (by omega) fun c hc => ?_
        rw [Int.toNat_natCast] at hc
        have ec := nth_eq hc
        have q1 := mul_in (a := n.den) (b := c) (A := 10000) (B := 10000) (by omega) (by omega)
        (conv => whnf); (repeat (first | (refine arith_i ⟨by omega, by omega⟩ ?_; conv => whnf) | (refine need_i (by first | omega | (simp only [List.length_append, List.length_cons, List.length_nil]; omega)) ?_; conv => whnf) | ((with_reducible refine branch_tt ?_); conv => whnf) | ((with_reducible refine branch_ff ?_); conv => whnf) | (with_reducible refine branch_not ?_) | ((with_reducible refine slc_e ?_); conv => whnf) | ((with_reducible refine callS_a ?_); conv => whnf) | ((with_reducible refine bld_a ?_); conv => whnf) | ((with_reducible refine own_e ?_); conv => whnf) | ((with_reducible refine mkmap_b ?_); conv => whnf)))
        refine draw_i 14 (.take 0 (.take 1 (.take 2 (.take 3 (.take 4 (.take 5 (.take 6 (.take 7 (.take 8 (.take 9 (.take 10 (.take 11 (.take 12 (.take 13 .done)))))))))))))) (by decide +kernel) ?_
        (conv => whnf); (repeat (first | (refine arith_i ⟨by omega, by omega⟩ ?_; conv => whnf) | (refine need_i (by first | omega | (simp only [List.length_append, List.length_cons, List.length_nil]; omega)) ?_; conv => whnf) | ((with_reducible refine branch_tt ?_); conv => whnf) | ((with_reducible refine branch_ff ?_); conv => whnf) | (with_reducible refine branch_not ?_) | ((with_reducible refine slc_e ?_); conv => whnf) | ((with_reducible refine callS_a ?_); conv => whnf) | ((with_reducible refine bld_a ?_); conv => whnf) | ((with_reducible refine own_e ?_); conv => whnf) | ((with_reducible refine mkmap_b ?_); conv => whnf)))
        refine idx_m (by omega) (by omega) fun co hco2 => ?_
        rw [Int.toNat_natCast] at hco2
        have eco := nth_eq hco2
        have q2 := mul_in (a := n.num) (b := co) (A := 10000) (B := 10000) (by omega) (by omega)
        have env : nodeV P n k = n.den * c - n.num * co := by rw [nodeV, ec, eco]
        (conv => whnf); (repeat (first | (refine arith_i ⟨by omega, by omega⟩ ?_; conv => whnf) | (refine need_i (by first | omega | (simp only [List.length_append, List.length_cons, List.length_nil]; omega)) ?_; conv => whnf) | ((with_reducible refine branch_tt ?_); conv => whnf) | ((with_reducible refine branch_ff ?_); conv => whnf) | (with_reducible refine branch_not ?_) | ((with_reducible refine slc_e ?_); conv => whnf) | ((with_reducible refine callS_a ?_); conv => whnf) | ((with_reducible refine bld_a ?_); conv => whnf) | ((with_reducible refine own_e ?_); conv => whnf) | ((with_reducible refine mkmap_b ?_); conv => whnf)))
        refine idx_m (by omega) (by omega) fun sx hsx => ?_
        rw [Int.toNat_natCast] at hsx
        have esx := nth_eq hsx
        have nx := tot_next (P := P) (st := st) (n := n) (k := k)
        rw [esx, env] at nx
        (conv => whnf); (repeat (first | (refine arith_i ⟨by omega, by omega⟩ ?_; conv => whnf) | (refine need_i (by first | omega | (simp only [List.length_append, List.length_cons, List.length_nil]; omega)) ?_; conv => whnf) | ((with_reducible refine branch_tt ?_); conv => whnf) | ((with_reducible refine branch_ff ?_); conv => whnf) | (with_reducible refine branch_not ?_) | ((with_reducible refine slc_e ?_); conv => whnf) | ((with_reducible refine callS_a ?_); conv => whnf) | ((with_reducible refine bld_a ?_); conv => whnf) | ((with_reducible refine own_e ?_); conv => whnf) | ((with_reducible refine mkmap_b ?_); conv => whnf)))
        refine branch_e (fun e1 => ?_) (fun e1 => ?_)
        · rw [contr, if_pos e1] at nx
          (conv => whnf); (repeat (first | (refine arith_i ⟨by omega, by omega⟩ ?_; conv => whnf) | (refine need_i (by first | omega | (simp only [List.length_append, List.length_cons, List.length_nil]; omega)) ?_; conv => whnf) | ((with_reducible refine branch_tt ?_); conv => whnf) | ((with_reducible refine branch_ff ?_); conv => whnf) | (with_reducible refine branch_not ?_) | ((with_reducible refine slc_e ?_); conv => whnf) | ((with_reducible refine callS_a ?_); conv => whnf) | ((with_reducible refine bld_a ?_); conv => whnf) | ((with_reducible refine own_e ?_); conv => whnf) | ((with_reducible refine mkmap_b ?_); conv => whnf)))
          exact ⟨k + 1, by omega, le_mk ⟨rfl, rfl, rfl, rfl, int_eq (by rw [nx]), rfl, rfl, rfl, trivial⟩ ⟨rfl, rfl, rfl, trivial⟩ rfl, by omega⟩
        · rw [contr, if_neg e1] at nx
          (conv => whnf); (repeat (first | (refine arith_i ⟨by omega, by omega⟩ ?_; conv => whnf) | (refine need_i (by first | omega | (simp only [List.length_append, List.length_cons, List.length_nil]; omega)) ?_; conv => whnf) | ((with_reducible refine branch_tt ?_); conv => whnf) | ((with_reducible refine branch_ff ?_); conv => whnf) | (with_reducible refine branch_not ?_) | ((with_reducible refine slc_e ?_); conv => whnf) | ((with_reducible refine callS_a ?_); conv => whnf) | ((with_reducible refine bld_a ?_); conv => whnf) | ((with_reducible refine own_e ?_); conv => whnf) | ((with_reducible refine mkmap_b ?_); conv => whnf)))
          refine branch_e (fun e2 => ?_) (fun e2 => ?_)
          · rw [if_pos e2] at nx
            (conv => whnf); (repeat (first | (refine arith_i ⟨by omega, by omega⟩ ?_; conv => whnf) | (refine need_i (by first | omega | (simp only [List.length_append, List.length_cons, List.length_nil]; omega)) ?_; conv => whnf) | ((with_reducible refine branch_tt ?_); conv => whnf) | ((with_reducible refine branch_ff ?_); conv => whnf) | (with_reducible refine branch_not ?_) | ((with_reducible refine slc_e ?_); conv => whnf) | ((with_reducible refine callS_a ?_); conv => whnf) | ((with_reducible refine bld_a ?_); conv => whnf) | ((with_reducible refine own_e ?_); conv => whnf) | ((with_reducible refine mkmap_b ?_); conv => whnf)))
            exact ⟨k + 1, by omega, le_mk ⟨rfl, rfl, rfl, rfl, int_eq (by rw [nx, min_if]), rfl, rfl, rfl, trivial⟩ ⟨rfl, rfl, rfl, trivial⟩ rfl, by omega⟩
          · rw [if_neg e2, Int.add_zero] at nx
            (conv => whnf); (repeat (first | (refine arith_i ⟨by omega, by omega⟩ ?_; conv => whnf) | (refine need_i (by first | omega | (simp only [List.length_append, List.length_cons, List.length_nil]; omega)) ?_; conv => whnf) | ((with_reducible refine branch_tt ?_); conv => whnf) | ((with_reducible refine branch_ff ?_); conv => whnf) | (with_reducible refine branch_not ?_) | ((with_reducible refine slc_e ?_); conv => whnf) | ((with_reducible refine callS_a ?_); conv => whnf) | ((with_reducible refine bld_a ?_); conv => whnf) | ((with_reducible refine own_e ?_); conv => whnf) | ((with_reducible refine mkmap_b ?_); conv => whnf)))
            exact ⟨k + 1, by omega, le_mk ⟨rfl, rfl, rfl, rfl, int_eq (by rw [nx]), rfl, rfl, rfl, trivial⟩ ⟨rfl, rfl, rfl, trivial⟩ rfl, by omega⟩
      · have hkn : k = P.costs.length := by omega
        subst hkn
        (conv => whnf); (repeat (first | (refine arith_i ⟨by omega, by omega⟩ ?_; conv => whnf) | (refine need_i (by first | omega | (simp only [List.length_append, List.length_cons, List.length_nil]; omega)) ?_; conv => whnf) | ((with_reducible refine branch_tt ?_); conv => whnf) | ((with_reducible refine branch_ff ?_); conv => whnf) | (with_reducible refine branch_not ?_) | ((with_reducible refine slc_e ?_); conv => whnf) | ((with_reducible refine callS_a ?_); conv => whnf) | ((with_reducible refine bld_a ?_); conv => whnf) | ((with_reducible refine own_e ?_); conv => whnf) | ((with_reducible refine mkmap_b ?_); conv => whnf)))
        refine call_e (ceil_ok (totF P st n P.costs.length) n.den (by omega) hd (by have := tdiv_in (a := totF P st n P.costs.length) hd.1; omega)) ?_
        (conv => whnf); (repeat (first | (refine arith_i ⟨by omega, by omega⟩ ?_; conv => whnf) | (refine need_i (by first | omega | (simp only [List.length_append, List.length_cons, List.length_nil]; omega)) ?_; conv => whnf) | ((with_reducible refine branch_tt ?_); conv => whnf) | ((with_reducible refine branch_ff ?_); conv => whnf) | (with_reducible refine branch_not ?_) | ((with_reducible refine slc_e ?_); conv => whnf) | ((with_reducible refine callS_a ?_); conv => whnf) | ((with_reducible refine bld_a ?_); conv => whnf) | ((with_reducible refine own_e ?_); conv => whnf) | ((with_reducible refine mkmap_b ?_); conv => whnf)))
        exact ret_p rfl rfl
    · (conv => whnf); (repeat (first | (refine arith_i ⟨by omega, by omega⟩ ?_; conv => whnf) | (refine need_i (by first | omega | (simp only [List.length_append, List.length_cons, List.length_nil]; omega)) ?_; conv => whnf) | ((with_reducible refine branch_tt ?_); conv => whnf) | ((with_reducible refine branch_ff ?_); conv => whnf) | (with_reducible refine branch_not ?_) | ((with_reducible refine slc_e ?_); conv => whnf) | ((with_reducible refine callS_a ?_); conv => whnf) | ((with_reducible refine bld_a ?_); conv => whnf) | ((with_reducible refine own_e ?_); conv => whnf) | ((with_reducible refine mkmap_b ?_); conv => whnf)))
      refine loop_i (fun k : Nat => k ≤ P.costs.length) (fun k => mkSt [(1, ints st), (3, .ptr 3 0), (5, .ptr 5 0), (7, .ptr 7 0), (8, .int .i64 (totF P st n k)), (40, ints P.costs), (41, .int .i64 (P.costs.map encI).length), (42, .int .i64 k)] [(3, [ints P.costs, rowsV P.rows]), (5, encN n), (7, encRow (rowOf P n))] false) (fun k => P.costs.length - k) 0 (Nat.zero_le _) (le_mk ⟨rfl, rfl, rfl, rfl, int_eq (by simp [totF, sumN, startF, hneg]), rfl, rfl, rfl, trivial⟩ ⟨rfl, rfl, rfl, trivial⟩ rfl) ?_
      intro k hk
      have ht := tot_in hv hb st k (by omega)
      have hnv := nodeV_in hv hb k
      have hco := hr.co k
      have hcs := cost_in hv k
      have Lc : ((rowOf P n).coefs.map encI).length = (rowOf P n).coefs.length := List.length_map ..
      have Lc2 := hr.len
      (conv => whnf); (repeat (first | (refine arith_i ⟨by omega, by omega⟩ ?_; conv => whnf) | (refine need_i (by first | omega | (simp only [List.length_append, List.length_cons, List.length_nil]; omega)) ?_; conv => whnf) | ((with_reducible refine branch_tt ?_); conv => whnf) | ((with_reducible refine branch_ff ?_); conv => whnf) | (with_reducible refine branch_not ?_) | ((with_reducible refine slc_e ?_); conv => whnf) | ((with_reducible refine callS_a ?_); conv => whnf) | ((with_reducible refine bld_a ?_); conv => whnf) | ((with_reducible refine own_e ?_); conv => whnf) | ((with_reducible refine mkmap_b ?_); conv => whnf)))
      refine branch_d (fun h => ?_) (fun h => ?_)
      · (conv => whnf); (repeat (first | (refine arith_i ⟨by omega, by omega⟩ ?_; conv => whnf) | (refine need_i (by first | omega | (simp only [List.length_append, List.length_cons, List.length_nil]; omega)) ?_; conv => whnf) | ((with_reducible refine branch_tt ?_); conv => whnf) | ((with_reducible refine branch_ff ?_); conv => whnf) | (with_reducible refine branch_not ?_) | ((with_reducible refine slc_e ?_); conv => whnf) | ((with_reducible refine callS_a ?_); conv => whnf) | ((with_reducible refine bld_a ?_); conv => whnf) | ((with_reducible refine own_e ?_); conv => whnf) | ((with_reducible refine mkmap_b ?_); conv => whnf)))
        refine idx_m (by omega) (by omega) fun c hc => ?_
        rw [Int.toNat_natCast] at hc
        have ec := nth_eq hc
        have q1 := mul_in (a := n.den) (b := c) (A := 10000) (B := 10000) (by omega) (by omega)
        (conv => whnf); (repeat (first | (refine arith_i ⟨by omega, by omega⟩ ?_; conv => whnf) | (refine need_i (by first | omega | (simp only [List.length_append, List.length_cons, List.length_nil]; omega)) ?_; conv => whnf) | ((with_reducible refine branch_tt ?_); conv => whnf) | ((with_reducible refine branch_ff ?_); conv => whnf) | (with_reducible refine branch_not ?_) | ((with_reducible refine slc_e ?_); conv => whnf) | ((with_reducible refine callS_a ?_); conv => whnf) | ((with_reducible refine bld_a ?_); conv => whnf) | ((with_reducible refine own_e ?_); conv => whnf) | ((with_reducible refine mkmap_b ?_); conv => whnf)))
        refine draw_i 14 (.take 0 (.take 1 (.take 2 (.take 3 (.take 4 (.take 5 (.take 6 (.take 7 (.take 8 (.take 9 (.take 10 (.take 11 (.take 12 (.take 13 .done)))))))))))))) (by decide +kernel) ?_
        (conv => whnf); (repeat (first | (refine arith_i ⟨by omega, by omega⟩ ?_; conv => whnf) | (refine need_i (by first | omega | (simp only [List.length_append, List.length_cons, List.length_nil]; omega)) ?_; conv => whnf) | ((with_reducible refine branch_tt ?_); conv => whnf) | ((with_reducible refine branch_ff ?_); conv => whnf) | (with_reducible refine branch_not ?_) | ((with_reducible refine slc_e ?_); conv => whnf) | ((with_reducible refine callS_a ?_); conv => whnf) | ((with_reducible refine bld_a ?_); conv => whnf) | ((with_reducible refine own_e ?_); conv => whnf) | ((with_reducible refine mkmap_b ?_); conv => whnf)))
        refine idx_m (by omega) (by omega) fun co hco2 => ?_
        rw [Int.toNat_natCast] at hco2
        have eco := nth_eq hco2
        have q2 := mul_in (a := n.num) (b := co) (A := 10000) (B := 10000) (by omega) (by omega)
        have env : nodeV P n k = n.den * c - n.num * co := by rw [nodeV, ec, eco]
        (conv => whnf); (repeat (first | (refine arith_i ⟨by omega, by omega⟩ ?_; conv => whnf) | (refine need_i (by first | omega | (simp only [List.length_append, List.length_cons, List.length_nil]; omega)) ?_; conv => whnf) | ((with_reducible refine branch_tt ?_); conv => whnf) | ((with_reducible refine branch_ff ?_); conv => whnf) | (with_reducible refine branch_not ?_) | ((with_reducible refine slc_e ?_); conv => whnf) | ((with_reducible refine callS_a ?_); conv => whnf) | ((with_reducible refine bld_a ?_); conv => whnf) | ((with_reducible refine own_e ?_); conv => whnf) | ((with_reducible refine mkmap_b ?_); conv => whnf)))
        refine idx_m (by omega) (by omega) fun sx hsx => ?_
        rw [Int.toNat_natCast] at hsx
        have esx := nth_eq hsx
        have nx := tot_next (P := P) (st := st) (n := n) (k := k)
        rw [esx, env] at nx
        (conv => whnf); (repeat (first | (refine arith_i ⟨by omega, by omega⟩ ?_; conv => whnf) | (refine need_i (by first | omega | (simp only [List.length_append, List.length_cons, List.length_nil]; omega)) ?_; conv => whnf) | ((with_reducible refine branch_tt ?_); conv => whnf) | ((with_reducible refine branch_ff ?_); conv => whnf) | (with_reducible refine branch_not ?_) | ((with_reducible refine slc_e ?_); conv => whnf) | ((with_reducible refine callS_a ?_); conv => whnf) | ((with_reducible refine bld_a ?_); conv => whnf) | ((with_reducible refine own_e ?_); conv => whnf) | ((with_reducible refine mkmap_b ?_); conv => whnf)))
        refine branch_e (fun e1 => ?_) (fun e1 => ?_)
        · rw [contr, if_pos e1] at nx
          (conv => whnf); (repeat (first | (refine arith_i ⟨by omega, by omega⟩ ?_; conv => whnf) | (refine need_i (by first | omega | (simp only [List.length_append, List.length_cons, List.length_nil]; omega)) ?_; conv => whnf) | ((with_reducible refine branch_tt ?_); conv => whnf) | ((with_reducible refine branch_ff ?_); conv => whnf) | (with_reducible refine branch_not ?_) | ((with_reducible refine slc_e ?_); conv => whnf) | ((with_reducible refine callS_a ?_); conv => whnf) | ((with_reducible refine bld_a ?_); conv => whnf) | ((with_reducible refine own_e ?_); conv => whnf) | ((with_reducible refine mkmap_b ?_); conv => whnf)))
          exact ⟨k + 1, by omega, le_mk ⟨rfl, rfl, rfl, rfl, int_eq (by rw [nx]), rfl, rfl, rfl, trivial⟩ ⟨rfl, rfl, rfl, trivial⟩ rfl, by omega⟩
        · rw [contr, if_neg e1] at nx
          (conv => whnf); (repeat (first | (refine arith_i ⟨by omega, by omega⟩ ?_; conv => whnf) | (refine need_i (by first | omega | (simp only [List.length_append, List.length_cons, List.length_nil]; omega)) ?_; conv => whnf) | ((with_reducible refine branch_tt ?_); conv => whnf) | ((with_reducible refine branch_ff ?_); conv => whnf) | (with_reducible refine branch_not ?_) | ((with_reducible refine slc_e ?_); conv => whnf) | ((with_reducible refine callS_a ?_); conv => whnf) | ((with_reducible refine bld_a ?_); conv => whnf) | ((with_reducible refine own_e ?_); conv => whnf) | ((with_reducible refine mkmap_b ?_); conv => whnf)))
          refine branch_e (fun e2 => ?_) (fun e2 => ?_)
          · rw [if_pos e2] at nx
            (conv => whnf); (repeat (first | (refine arith_i ⟨by omega, by omega⟩ ?_; conv => whnf) | (refine need_i (by first | omega | (simp only [List.length_append, List.length_cons, List.length_nil]; omega)) ?_; conv => whnf) | ((with_reducible refine branch_tt ?_); conv => whnf) | ((with_reducible refine branch_ff ?_); conv => whnf) | (with_reducible refine branch_not ?_) | ((with_reducible refine slc_e ?_); conv => whnf) | ((with_reducible refine callS_a ?_); conv => whnf) | ((with_reducible refine bld_a ?_); conv => whnf) | ((with_reducible refine own_e ?_); conv => whnf) | ((with_reducible refine mkmap_b ?_); conv => whnf)))
            exact ⟨k + 1, by omega, le_mk ⟨rfl, rfl, rfl, rfl, int_eq (by rw [nx, min_if]), rfl, rfl, rfl, trivial⟩ ⟨rfl, rfl, rfl, trivial⟩ rfl, by omega⟩
          · rw [if_neg e2, Int.add_zero] at nx
            (conv => whnf); (repeat (first | (refine arith_i ⟨by omega, by omega⟩ ?_; conv => whnf) | (refine need_i (by first | omega | (simp only [List.length_append, List.length_cons, List.length_nil]; omega)) ?_; conv => whnf) | ((with_reducible refine branch_tt ?_); conv => whnf) | ((with_reducible refine branch_ff ?_); conv => whnf) | (with_reducible refine branch_not ?_) | ((with_reducible refine slc_e ?_); conv => whnf) | ((with_reducible refine callS_a ?_); conv => whnf) | ((with_reducible refine bld_a ?_); conv => whnf) | ((with_reducible refine own_e ?_); conv => whnf) | ((with_reducible refine mkmap_b ?_); conv => whnf)))
            exact ⟨k + 1, by omega, le_mk ⟨rfl, rfl, rfl, rfl, int_eq (by rw [nx]), rfl, rfl, rfl, trivial⟩ ⟨rfl, rfl, rfl, trivial⟩ rfl, by omega⟩
      · have hkn : k = P.costs.length := by omega
        subst hkn
        (conv => whnf); (repeat (first | (refine arith_i ⟨by omega, by omega⟩ ?_; conv => whnf) | (refine need_i (by first | omega | (simp only [List.length_append, List.length_cons, List.length_nil]; omega)) ?_; conv => whnf) | ((with_reducible refine branch_tt ?_); conv => whnf) | ((with_reducible refine branch_ff ?_); conv => whnf) | (with_reducible refine branch_not ?_) | ((with_reducible refine slc_e ?_); conv => whnf) | ((with_reducible refine callS_a ?_); conv => whnf) | ((with_reducible refine bld_a ?_); conv => whnf) | ((with_reducible refine own_e ?_); conv => whnf) | ((with_reducible refine mkmap_b ?_); conv => whnf)))
        refine call_e (ceil_ok (totF P st n P.costs.length) n.den (by omega) hd (by have := tdiv_in (a := totF P st n P.costs.length) hd.1; omega)) ?_
        (conv => whnf); (repeat (first | (refine arith_i ⟨by omega, by omega⟩ ?_; conv => whnf) | (refine need_i (by first | omega | (simp only [List.length_append, List.length_cons, List.length_nil]; omega)) ?_; conv => whnf) | ((with_reducible refine branch_tt ?_); conv => whnf) | ((with_reducible refine branch_ff ?_); conv => whnf) | (with_reducible refine branch_not ?_) | ((with_reducible refine slc_e ?_); conv => whnf) | ((with_reducible refine callS_a ?_); conv => whnf) | ((with_reducible refine bld_a ?_); conv => whnf) | ((with_reducible refine own_e ?_); conv => whnf) | ((with_reducible refine mkmap_b ?_); conv => whnf)))
        exact ret_p rfl rfl
end Go.Proofs.Ytiionjpinainlaa
end

/- Layer 9 by the interpreter: Bound. -/
section
namespace Go.Proofs.Ytiionjpinainlaa
set_option linter.unusedVariables false
set_option linter.unusedSimpArgs false
set_option linter.unnecessarySimpa false
set_option linter.unusedSectionVars false
set_option maxRecDepth 10000
open Go.RowKit

def okB (P : Prog) (st : List Int) (n : Nd) : Bool := validB P && stOB st P.costs.length && bndB P.rows.length n
def boundV (P : Prog) (st : List Int) (n : Nd) : AV := .tup [.int .i64 (if okB P st n = true then boundF P st n else 0), .bool (okB P st n)]
theorem bound_ok (P : Prog) (st : List Int) (n : Nd) (hP : Fits P) (hl : st.length ≤ 1000000) : Good Try.prog TT false 68 [progV P, ints st, .agg (encN n)] (· = boundV P st n) := by
  have L1 : (P.costs.map encI).length = P.costs.length := List.length_map ..
  have bad : okB P st n = false → aret (.tup [.int .i64 0, .bool false]) (· = boundV P st n) := fun h =>
    ret_t (rs := [.int .i64 0, .bool false]) ⟨(rc_p rfl).g, (rc_p rfl).g, trivial⟩ (by rw [boundV, h]; rfl)
  refine good_of mixed tabOk Try.func68 rfl rfl Try.ntmps68 Try.results68 rfl rfl ?_
  (conv => whnf); (repeat (first | (refine arith_i ⟨by omega, by omega⟩ ?_; conv => whnf) | (refine need_i (by first | omega | (simp only [List.length_append, List.length_cons, List.length_nil]; omega)) ?_; conv => whnf) | ((with_reducible refine branch_tt ?_); conv => whnf) | ((with_reducible refine branch_ff ?_); conv => whnf) | (with_reducible refine branch_not ?_) | ((with_reducible refine slc_e ?_); conv => whnf) | ((with_reducible refine callS_a ?_); conv => whnf) | ((with_reducible refine bld_a ?_); conv => whnf) | ((with_reducible refine own_e ?_); conv => whnf) | ((with_reducible refine mkmap_b ?_); conv => whnf)))
  refine call_e (valid_ok P hP.1 hP.2.1 hP.2.2) ?_
  (conv => whnf); (repeat (first | (refine arith_i ⟨by omega, by omega⟩ ?_; conv => whnf) | (refine need_i (by first | omega | (simp only [List.length_append, List.length_cons, List.length_nil]; omega)) ?_; conv => whnf) | ((with_reducible refine branch_tt ?_); conv => whnf) | ((with_reducible refine branch_ff ?_); conv => whnf) | (with_reducible refine branch_not ?_) | ((with_reducible refine slc_e ?_); conv => whnf) | ((with_reducible refine callS_a ?_); conv => whnf) | ((with_reducible refine bld_a ?_); conv => whnf) | ((with_reducible refine own_e ?_); conv => whnf) | ((with_reducible refine mkmap_b ?_); conv => whnf)))
  refine branch_i (fun hv => ?_) (fun hv => ?_)
  · (conv => whnf); (repeat (first | (refine arith_i ⟨by omega, by omega⟩ ?_; conv => whnf) | (refine need_i (by first | omega | (simp only [List.length_append, List.length_cons, List.length_nil]; omega)) ?_; conv => whnf) | ((with_reducible refine branch_tt ?_); conv => whnf) | ((with_reducible refine branch_ff ?_); conv => whnf) | (with_reducible refine branch_not ?_) | ((with_reducible refine slc_e ?_); conv => whnf) | ((with_reducible refine callS_a ?_); conv => whnf) | ((with_reducible refine bld_a ?_); conv => whnf) | ((with_reducible refine own_e ?_); conv => whnf) | ((with_reducible refine mkmap_b ?_); conv => whnf)))
    have hG : Good Try.prog TT false 88 [ints st, .int .i64 (P.costs.map encI).length] (· = .bool (stOB st P.costs.length)) := by rw [L1]; exact oState_ok st P.costs.length hl
    refine call_e hG ?_
    (conv => whnf); (repeat (first | (refine arith_i ⟨by omega, by omega⟩ ?_; conv => whnf) | (refine need_i (by first | omega | (simp only [List.length_append, List.length_cons, List.length_nil]; omega)) ?_; conv => whnf) | ((with_reducible refine branch_tt ?_); conv => whnf) | ((with_reducible refine branch_ff ?_); conv => whnf) | (with_reducible refine branch_not ?_) | ((with_reducible refine slc_e ?_); conv => whnf) | ((with_reducible refine callS_a ?_); conv => whnf) | ((with_reducible refine bld_a ?_); conv => whnf) | ((with_reducible refine own_e ?_); conv => whnf) | ((with_reducible refine mkmap_b ?_); conv => whnf)))
    refine branch_i (fun hs => ?_) (fun hs => ?_)
    · (conv => whnf); (repeat (first | (refine arith_i ⟨by omega, by omega⟩ ?_; conv => whnf) | (refine need_i (by first | omega | (simp only [List.length_append, List.length_cons, List.length_nil]; omega)) ?_; conv => whnf) | ((with_reducible refine branch_tt ?_); conv => whnf) | ((with_reducible refine branch_ff ?_); conv => whnf) | (with_reducible refine branch_not ?_) | ((with_reducible refine slc_e ?_); conv => whnf) | ((with_reducible refine callS_a ?_); conv => whnf) | ((with_reducible refine bld_a ?_); conv => whnf) | ((with_reducible refine own_e ?_); conv => whnf) | ((with_reducible refine mkmap_b ?_); conv => whnf)))
      refine call_e (oBound_ok P n) ?_
      (conv => whnf); (repeat (first | (refine arith_i ⟨by omega, by omega⟩ ?_; conv => whnf) | (refine need_i (by first | omega | (simp only [List.length_append, List.length_cons, List.length_nil]; omega)) ?_; conv => whnf) | ((with_reducible refine branch_tt ?_); conv => whnf) | ((with_reducible refine branch_ff ?_); conv => whnf) | (with_reducible refine branch_not ?_) | ((with_reducible refine slc_e ?_); conv => whnf) | ((with_reducible refine callS_a ?_); conv => whnf) | ((with_reducible refine bld_a ?_); conv => whnf) | ((with_reducible refine own_e ?_); conv => whnf) | ((with_reducible refine mkmap_b ?_); conv => whnf)))
      refine branch_i (fun hb => ?_) (fun hb => ?_)
      · (conv => whnf); (repeat (first | (refine arith_i ⟨by omega, by omega⟩ ?_; conv => whnf) | (refine need_i (by first | omega | (simp only [List.length_append, List.length_cons, List.length_nil]; omega)) ?_; conv => whnf) | ((with_reducible refine branch_tt ?_); conv => whnf) | ((with_reducible refine branch_ff ?_); conv => whnf) | (with_reducible refine branch_not ?_) | ((with_reducible refine slc_e ?_); conv => whnf) | ((with_reducible refine callS_a ?_); conv => whnf) | ((with_reducible refine bld_a ?_); conv => whnf) | ((with_reducible refine own_e ?_); conv => whnf) | ((with_reducible refine mkmap_b ?_); conv => whnf)))
        have hlen : st.length = P.costs.length := by
          simp only [stOB, Bool.and_eq_true, decide_eq_true_eq] at hs
          omega
        refine call_e (boundOf_ok P st n hv hlen hb) ?_
        (conv => whnf); (repeat (first | (refine arith_i ⟨by omega, by omega⟩ ?_; conv => whnf) | (refine need_i (by first | omega | (simp only [List.length_append, List.length_cons, List.length_nil]; omega)) ?_; conv => whnf) | ((with_reducible refine branch_tt ?_); conv => whnf) | ((with_reducible refine branch_ff ?_); conv => whnf) | (with_reducible refine branch_not ?_) | ((with_reducible refine slc_e ?_); conv => whnf) | ((with_reducible refine callS_a ?_); conv => whnf) | ((with_reducible refine bld_a ?_); conv => whnf) | ((with_reducible refine own_e ?_); conv => whnf) | ((with_reducible refine mkmap_b ?_); conv => whnf)))
        have ho : okB P st n = true := by simp [okB, hv, hs, hb]
        exact ret_t (rs := [.int .i64 (boundF P st n), .bool true]) ⟨(rc_p rfl).g, (rc_p rfl).g, trivial⟩ (by rw [boundV, ho]; rfl)
      · (conv => whnf); (repeat (first | (refine arith_i ⟨by omega, by omega⟩ ?_; conv => whnf) | (refine need_i (by first | omega | (simp only [List.length_append, List.length_cons, List.length_nil]; omega)) ?_; conv => whnf) | ((with_reducible refine branch_tt ?_); conv => whnf) | ((with_reducible refine branch_ff ?_); conv => whnf) | (with_reducible refine branch_not ?_) | ((with_reducible refine slc_e ?_); conv => whnf) | ((with_reducible refine callS_a ?_); conv => whnf) | ((with_reducible refine bld_a ?_); conv => whnf) | ((with_reducible refine own_e ?_); conv => whnf) | ((with_reducible refine mkmap_b ?_); conv => whnf)))
        exact bad (by simp [okB, hb])
    · (conv => whnf); (repeat (first | (refine arith_i ⟨by omega, by omega⟩ ?_; conv => whnf) | (refine need_i (by first | omega | (simp only [List.length_append, List.length_cons, List.length_nil]; omega)) ?_; conv => whnf) | ((with_reducible refine branch_tt ?_); conv => whnf) | ((with_reducible refine branch_ff ?_); conv => whnf) | (with_reducible refine branch_not ?_) | ((with_reducible refine slc_e ?_); conv => whnf) | ((with_reducible refine callS_a ?_); conv => whnf) | ((with_reducible refine bld_a ?_); conv => whnf) | ((with_reducible refine own_e ?_); conv => whnf) | ((with_reducible refine mkmap_b ?_); conv => whnf)))
      exact bad (by simp [okB, hs])
  · (conv => whnf); (repeat (first | (refine arith_i ⟨by omega, by omega⟩ ?_; conv => whnf) | (refine need_i (by first | omega | (simp only [List.length_append, List.length_cons, List.length_nil]; omega)) ?_; conv => whnf) | ((with_reducible refine branch_tt ?_); conv => whnf) | ((with_reducible refine branch_ff ?_); conv => whnf) | (with_reducible refine branch_not ?_) | ((with_reducible refine slc_e ?_); conv => whnf) | ((with_reducible refine callS_a ?_); conv => whnf) | ((with_reducible refine bld_a ?_); conv => whnf) | ((with_reducible refine own_e ?_); conv => whnf) | ((with_reducible refine mkmap_b ?_); conv => whnf)))
    exact bad (by simp [okB, hv])
end Go.Proofs.Ytiionjpinainlaa
end

/- Layer 10, plain: the choices in ascending order, the cheapest one. No program in sight. -/
section
namespace Go.Proofs.Ytiionjpinainlaa
set_option linter.unusedVariables false
set_option linter.unusedSimpArgs false
set_option linter.unnecessarySimpa false
set_option linter.unusedSectionVars false

/-- Whether a choice meets all rows. -/
def metB (P : Prog) (ch : List Int) : Bool := P.rows.all (meetB ch)
def here (P : Prog) (ch : List Int) : List (List Int) := if metB P ch then [ch] else []
/-- The choices that begin with ch and go on with options from a number on, m of them at most; ascending. -/
def loopF (P : Prog) : Nat → List Int → Nat → List (List Int)
  | 0, _, _ => []
  | m + 1, ch, i => here P (ch ++ [(i : Int)]) ++ loopF P m (ch ++ [(i : Int)]) (i + 1) ++ loopF P m ch (i + 1)
def visF (P : Prog) (ch : List Int) (i : Nat) : List (List Int) := here P ch ++ loopF P (P.costs.length - i) ch i
/-- All choices that meet the rows. -/
def allF (P : Prog) : List (List Int) := visF P [] 0
/-- The cheapest so far: found, cost, choice. -/
def bestS (P : Prog) (σ : Bool × Int × List Int) (ch : List Int) : Bool × Int × List Int :=
  if σ.1 = false ∨ sumOf P.costs ch < σ.2.1 then (true, sumOf P.costs ch, ch) else σ
def bestF (P : Prog) : Bool × Int × List Int := (allF P).foldl (bestS P) (false, 0, [])

/-- Ascending options within bounds. -/
def Asc (lo hi : Nat) (ch : List Int) : Prop := ch.Pairwise (· < ·) ∧ ∀ x ∈ ch, (lo : Int) ≤ x ∧ x < hi
theorem asc_choice {n : Nat} {ch : List Int} (h : Asc 0 n ch) : choiceB ch n = true := choice_of_asc h.1 fun x hx => by have := h.2 x hx; omega
theorem Asc.snoc {i n : Nat} {ch : List Int} (h : Asc 0 i ch) (hi : i < n) : Asc 0 (i + 1) (ch ++ [(i : Int)]) := by
  refine ⟨List.pairwise_append.2 ⟨h.1, List.pairwise_singleton _ _, fun x hx y hy => ?_⟩, fun x hx => ?_⟩
  · rw [List.mem_singleton.1 hy]; exact (h.2 x hx).2
  · rcases List.mem_append.1 hx with hx | hx
    · have := h.2 x hx; omega
    · rw [List.mem_singleton.1 hx]; omega
theorem Asc.mono {lo hi hi' : Nat} {ch : List Int} (h : Asc lo hi ch) (hh : hi ≤ hi') : Asc lo hi' ch := ⟨h.1, fun x hx => by have := h.2 x hx; omega⟩
/-- What is in the list. -/
theorem loop_mem {P : Prog} {c : List Int} : ∀ {m : Nat} {ch : List Int} {i : Nat}, c ∈ loopF P m ch i ↔ ∃ t, t ≠ [] ∧ Asc i (i + m) t ∧ c = ch ++ t ∧ metB P c = true
  | 0, ch, i => by
    simp only [loopF, List.not_mem_nil, false_iff]
    rintro ⟨t, h0, h1, -, -⟩
    cases t with
    | nil => exact h0 rfl
    | cons x t => have := h1.2 x (by simp); omega
  | m + 1, ch, i => by
    simp only [loopF, List.mem_append, loop_mem (m := m)]
    constructor
    · rintro ((h | ⟨t, h0, h1, h2, h3⟩) | ⟨t, h0, h1, h2, h3⟩)
      · simp only [here] at h
        split at h
        · next hm =>
          rw [List.mem_singleton.1 h]
          exact ⟨[(i : Int)], by simp, ⟨List.pairwise_singleton _ _, fun x hx => by rw [List.mem_singleton.1 hx]; omega⟩, rfl, hm⟩
        · simp at h
      · refine ⟨(i : Int) :: t, by simp, ⟨List.pairwise_cons.2 ⟨fun x hx => by have := h1.2 x hx; omega, h1.1⟩, fun x hx => ?_⟩, by rw [h2]; simp, h3⟩
        rcases List.mem_cons.1 hx with rfl | hx
        · omega
        · have := h1.2 x hx; omega
      · exact ⟨t, h0, ⟨h1.1, fun x hx => by have := h1.2 x hx; omega⟩, h2, h3⟩
    · rintro ⟨t, h0, h1, h2, h3⟩
      cases t with
      | nil => exact absurd rfl h0
      | cons x t =>
        have hx := h1.2 x (by simp)
        have hp := List.pairwise_cons.1 h1.1
        by_cases e : x = i
        · subst e
          left
          by_cases ht : t = []
          · subst ht
            left
            simp only [here]
            rw [h2] at h3
            rw [if_pos h3, h2]
            simp
          · right
            exact ⟨t, ht, ⟨hp.2, fun y hy => by have := hp.1 y hy; have := h1.2 y (by simp [hy]); omega⟩, by rw [h2]; simp, h3⟩
        · right
          exact ⟨x :: t, by simp, ⟨h1.1, fun y hy => by
            have h4 := h1.2 y hy
            rcases List.mem_cons.1 hy with rfl | hy
            · omega
            · have := hp.1 y hy; omega⟩, h2, h3⟩
theorem all_mem {P : Prog} {c : List Int} : c ∈ allF P ↔ Asc 0 P.costs.length c ∧ metB P c = true := by
  simp only [allF, visF, List.mem_append, loop_mem, here]
  constructor
  · rintro (h | ⟨t, h0, h1, h2, h3⟩)
    · split at h
      · next hm => rw [List.mem_singleton.1 h]; exact ⟨⟨List.Pairwise.nil, by simp⟩, hm⟩
      · simp at h
    · rw [List.nil_append] at h2
      subst h2
      exact ⟨⟨h1.1, fun x hx => by have := h1.2 x hx; omega⟩, h3⟩
  · rintro ⟨h1, h2⟩
    by_cases hc : c = []
    · subst hc; left; rw [if_pos h2]; simp
    · right
      exact ⟨c, hc, ⟨h1.1, fun x hx => by have := h1.2 x hx; omega⟩, by simp, h2⟩
theorem meets_asc {P : Prog} {c : List Int} (hv : validB P = true) (h : Asc 0 P.costs.length c) : meetsB P c = metB P c := by
  simp only [meetsB, hv, asc_choice h, Bool.true_and, metB]
theorem all_meets {P : Prog} {c : List Int} (hv : validB P = true) (h : c ∈ allF P) : meetsB P c = true ∧ costF P c = sumOf P.costs c ∧ Asc 0 P.costs.length c := by
  obtain ⟨h1, h2⟩ := all_mem.1 h
  exact ⟨by rw [meets_asc hv h1]; exact h2, by rw [costF, if_pos]; simp [costOk, hv, asc_choice h1], h1⟩
/-! in ascending order -/
def befB : List Int → List Int → Bool
  | x :: a, y :: b => if x = y then befB a b else decide (x < y)
  | [], _ :: _ => true
  | _, [] => false
theorem bef_pre (p a b : List Int) : befB (p ++ a) (p ++ b) = befB a b := by
  induction p with
  | nil => rfl
  | cons x p ih => simp only [List.cons_append, befB, if_pos, ih]
theorem loop_sorted {P : Prog} : ∀ {m : Nat} {ch : List Int} {i : Nat}, (loopF P m ch i).Pairwise (fun a b => befB a b = true)
  | 0, ch, i => by simp [loopF]
  | m + 1, ch, i => by
    simp only [loopF]
    refine List.pairwise_append.2 ⟨List.pairwise_append.2 ⟨?_, loop_sorted, fun a ha b hb => ?_⟩, loop_sorted, fun a ha b hb => ?_⟩
    · simp only [here]; split <;> simp
    · simp only [here] at ha
      split at ha
      · rw [List.mem_singleton.1 ha]
        obtain ⟨t, h0, h1, h2, h3⟩ := loop_mem.1 hb
        subst h2
        have := bef_pre (ch ++ [(i : Int)]) [] t
        rw [List.append_nil] at this
        rw [this]
        cases t with
        | nil => exact absurd rfl h0
        | cons x t => rfl
      · simp at ha
    · obtain ⟨t, h0, h1, h2, h3⟩ := loop_mem.1 hb
      subst h2
      have hx : ∃ s, a = ch ++ ((i : Int) :: s) := by
        rcases List.mem_append.1 ha with ha | ha
        · simp only [here] at ha
          split at ha
          · rw [List.mem_singleton.1 ha]; exact ⟨[], rfl⟩
          · simp at ha
        · obtain ⟨s, _, _, h, _⟩ := loop_mem.1 ha
          exact ⟨s, by rw [h]; simp⟩
      obtain ⟨s, rfl⟩ := hx
      rw [bef_pre]
      cases t with
      | nil => exact absurd rfl h0
      | cons x t =>
        have := h1.2 x (by simp)
        simp only [befB]
        rw [if_neg (by omega)]
        simp; omega
theorem all_sorted {P : Prog} : (allF P).Pairwise (fun a b => befB a b = true) := by
  simp only [allF, visF]
  refine List.pairwise_append.2 ⟨by simp only [here]; split <;> simp, loop_sorted, fun a ha b hb => ?_⟩
  simp only [here] at ha
  split at ha
  · rw [List.mem_singleton.1 ha]
    obtain ⟨t, h0, h1, h2, h3⟩ := loop_mem.1 hb
    rw [List.nil_append] at h2
    rw [h2]
    cases t with
    | nil => exact absurd rfl h0
    | cons x t => rfl
  · simp at ha
theorem bef_asymm : ∀ {a b : List Int}, befB a b = true → befB b a = false
  | [], [], h => by cases h
  | [], _ :: _, _ => rfl
  | _ :: _, [], h => by cases h
  | x :: a, y :: b, h => by
    simp only [befB] at h ⊢
    by_cases e : x = y
    · subst e; simp only [if_true] at h ⊢; exact bef_asymm h
    · rw [if_neg e] at h
      rw [if_neg (Ne.symm e)]
      simp at h ⊢; omega
/-! the cheapest -/
structure BestIs (P : Prog) (l : List (List Int)) (σ : Bool × Int × List Int) : Prop where
  none : σ.1 = false → l = [] ∧ σ = (false, 0, [])
  mem : σ.1 = true → σ.2.2 ∈ l ∧ σ.2.1 = sumOf P.costs σ.2.2
  least : σ.1 = true → ∀ c ∈ l, σ.2.1 ≤ sumOf P.costs c
  first : σ.1 = true → ∃ l1 l2, l = l1 ++ σ.2.2 :: l2 ∧ ∀ c ∈ l1, σ.2.1 < sumOf P.costs c
theorem best_step {P : Prog} {l : List (List Int)} {σ : Bool × Int × List Int} (h : BestIs P l σ) (c : List Int) : BestIs P (l ++ [c]) (bestS P σ c) := by
  unfold bestS
  by_cases hs : σ.1 = false
  · rw [if_pos (.inl hs)]
    obtain ⟨rfl, -⟩ := h.none hs
    exact ⟨nofun, fun _ => ⟨by simp, rfl⟩, fun _ x hx => by simp at hx; subst hx; exact Int.le_refl _, fun _ => ⟨[], [], rfl, by simp⟩⟩
  · have ht : σ.1 = true := by simpa using hs
    by_cases hc : sumOf P.costs c < σ.2.1
    · rw [if_pos (.inr hc)]
      refine ⟨nofun, fun _ => ⟨by simp, rfl⟩, fun _ x hx => ?_, fun _ => ⟨l, [], rfl, fun x hx => ?_⟩⟩
      · rcases List.mem_append.1 hx with hx | hx
        · have := h.least ht x hx; show sumOf P.costs c ≤ _; omega
        · rw [List.mem_singleton.1 hx]; exact Int.le_refl _
      · have := h.least ht x hx; show sumOf P.costs c < _; omega
    · rw [if_neg (by simp [hs, hc])]
      refine ⟨fun e => absurd e hs, fun _ => ⟨by simp [(h.mem ht).1], (h.mem ht).2⟩, fun _ x hx => ?_, fun _ => ?_⟩
      · rcases List.mem_append.1 hx with hx | hx
        · exact h.least ht x hx
        · rw [List.mem_singleton.1 hx]; omega
      · obtain ⟨l1, l2, h1, h2⟩ := h.first ht
        exact ⟨l1, l2 ++ [c], by rw [h1]; simp, h2⟩
theorem best_fold {P : Prog} : ∀ (l2 l1 : List (List Int)) (σ : Bool × Int × List Int), BestIs P l1 σ → BestIs P (l1 ++ l2) (l2.foldl (bestS P) σ)
  | [], l1, σ, h => by simpa using h
  | c :: l2, l1, σ, h => by
    have := best_fold l2 (l1 ++ [c]) _ (best_step h c)
    simpa using this
theorem best_is (P : Prog) : BestIs P (allF P) (bestF P) := by
  have := best_fold (P := P) (allF P) [] (false, 0, []) ⟨fun _ => ⟨rfl, rfl⟩, nofun, nofun, nofun⟩
  simpa [bestF] using this
end Go.Proofs.Ytiionjpinainlaa
end

/- Layer 10: the closures of 'each' that add a row's coefficients and look at the sums. -/
section
namespace Go.Proofs.Ytiionjpinainlaa
set_option linter.unusedVariables false
set_option linter.unusedSimpArgs false
set_option linter.unnecessarySimpa false
set_option linter.unusedSectionVars false
set_option maxRecDepth 10000
open Go.RowKit
def plGL10a_0 : Plan := (.take 0 (.take 1 (.take 2 (.take 3 (.take 4 (.take 5 (.take 6 (.take 7 (.take 8 (.take 9 (.take 10 (.take 11 (.take 12 (.take 13 (.take 14 (.take 15 .done))))))))))))))))
def plGL10a_1 : Plan := (.take 0 (.take 1 (.take 2 (.take 4 (.take 5 (.alt 3 (.take 6 (.take 7 (.take 9 (.take 12 (.alt 8 (.take 10 (.alt 11 (.alt 13 (.take 14 (.take 15 .done)) .stop) (.alt 13 (.alt 11 (.take 14 (.take 15 .done)) .stop) .stop))) (.alt 13 (.alt 8 (.take 10 (.alt 11 (.take 14 (.take 15 .done)) .stop)) .stop) .stop)))))) .stop))))))
def plGL10a_2 : Plan := (.take 1 (.take 4 (.alt 0 (.take 2 (.alt 3 (.alt 5 (.take 6 (.take 7 (.take 9 (.take 12 (.alt 8 (.take 10 (.alt 11 (.alt 13 (.take 14 (.take 15 .done)) .stop) (.alt 13 (.alt 11 (.take 14 (.take 15 .done)) .stop) .stop))) (.alt 13 (.alt 8 (.take 10 (.alt 11 (.take 14 (.take 15 .done)) .stop)) .stop) .stop)))))) .stop) (.alt 5 (.alt 3 (.take 6 (.take 7 (.take 9 (.take 12 (.alt 8 (.take 10 (.alt 11 (.alt 13 (.take 14 (.take 15 .done)) .stop) (.alt 13 (.alt 11 (.take 14 (.take 15 .done)) .stop) .stop))) (.alt 13 (.alt 8 (.take 10 (.alt 11 (.take 14 (.take 15 .done)) .stop)) .stop) .stop)))))) .stop) .stop))) (.alt 5 (.alt 0 (.take 2 (.alt 3 (.take 6 (.take 7 (.take 9 (.take 12 (.alt 8 (.take 10 (.alt 11 (.alt 13 (.take 14 (.take 15 .done)) .stop) (.alt 13 (.alt 11 (.take 14 (.take 15 .done)) .stop) .stop))) (.alt 13 (.alt 8 (.take 10 (.alt 11 (.take 14 (.take 15 .done)) .stop)) .stop) .stop)))))) .stop)) .stop) .stop))))
def plGL10a_3 : Plan := (.take 0 (.take 1 (.take 2 (.take 3 (.take 4 (.take 5 (.take 6 (.take 7 (.take 8 (.take 9 (.take 10 (.take 11 (.take 12 (.altE 13 .done .stop))))))))))))))
def plGL10a_4 : Plan := (.take 0 (.take 1 (.take 2 (.take 4 (.take 5 (.take 6 (.take 7 (.take 8 (.alt 3 (.alt 9 (.take 10 (.take 11 (.take 12 (.altE 13 .done .stop)))) .stop) (.alt 9 (.take 10 (.alt 3 (.take 11 (.take 12 (.altE 13 .done .stop))) .stop)) .stop))))))))))
def plGL10a_5 : Plan := (.take 1 (.take 4 (.take 5 (.take 7 (.alt 0 (.take 2 (.alt 3 (.alt 6 (.take 8 (.alt 9 (.take 10 (.take 11 (.take 12 (.alt 13 .done .stop)))) .stop)) .stop) (.alt 6 (.take 8 (.alt 3 (.alt 9 (.take 10 (.take 11 (.take 12 (.alt 13 .done .stop)))) .stop) (.alt 9 (.take 10 (.alt 3 (.take 11 (.take 12 (.alt 13 .done .stop))) .stop)) .stop))) .stop))) (.alt 6 (.take 8 (.alt 0 (.take 2 (.alt 3 (.alt 9 (.take 10 (.take 11 (.take 12 (.alt 13 .done .stop)))) .stop) (.alt 9 (.take 10 (.alt 3 (.take 11 (.take 12 (.alt 13 .done .stop))) .stop)) .stop))) (.alt 9 (.take 10 (.alt 0 (.take 2 (.alt 3 (.take 11 (.take 12 (.alt 13 .done .stop))) .stop)) .stop)) .stop))) .stop))))))
def sumsOkB (rows : List Row) (xs : List Int) : Bool := (List.range rows.length).all fun k => decide ((rowAt rows k).least ≤ nth xs k) && decide (nth xs k ≤ (rowAt rows k).most)
theorem sumsOk_bad {rows : List Row} {xs : List Int} {k : Nat} (hk : k < rows.length) (h : ¬ ((rowAt rows k).least ≤ nth xs k ∧ nth xs k ≤ (rowAt rows k).most)) : sumsOkB rows xs = false := by
  rw [← Bool.not_eq_true, sumsOkB, List.all_eq_true]
  intro hh
  have := hh k (List.mem_range.2 hk)
  simp only [Bool.and_eq_true, decide_eq_true_eq] at this
  exact h this
theorem sumsOk_good {rows : List Row} {xs : List Int} (h : ∀ k, k < rows.length → (rowAt rows k).least ≤ nth xs k ∧ nth xs k ≤ (rowAt rows k).most) : sumsOkB rows xs = true := by
  rw [sumsOkB, List.all_eq_true]
  intro k hk
  simp only [Bool.and_eq_true, decide_eq_true_eq]
  exact h k (List.mem_range.1 hk)
set_option maxHeartbeats 2000000 in
theorem met_ok (P : Prog) (xs : List Int) (hl : xs.length = P.rows.length) (hr : P.rows.length ≤ 60) : Good Try.prog TT false 64 [.ref [ints P.costs, rowsV P.rows], .ref [ints xs]] (· = .bool (sumsOkB P.rows xs)) := by
  have LR : (P.rows.map encRow).length = P.rows.length := List.length_map ..
  have LX : (xs.map encI).length = xs.length := List.length_map ..
  refine good_of mixed tabOk Try.func64 rfl rfl Try.ntmps64 Try.results64 rfl rfl ?_
  (conv => whnf); (repeat' (first | (refine arith_i ⟨by omega, by omega⟩ ?_; conv => whnf) | (refine arith_u ⟨by omega, by omega⟩ ?_; conv => whnf) | (refine arith_8 ⟨by omega, by omega⟩ ?_; conv => whnf) | (refine need_i (by first | omega | (simp only [List.length_cons, List.length_nil]; omega) | (simp only [List.length_append, List.length_cons, List.length_nil, List.length_map, List.length_replicate, List.length_modify]; omega)) ?_; conv => whnf) | ((with_reducible refine branch_tt ?_); conv => whnf) | ((with_reducible refine branch_ff ?_); conv => whnf) | (with_reducible refine branch_not ?_) | ((with_reducible refine slc_e ?_); conv => whnf) | ((with_reducible refine callS_a ?_); conv => whnf) | ((with_reducible refine bld_a ?_); conv => whnf) | ((with_reducible refine own_e ?_); conv => whnf) | ((with_reducible refine mkmap_b ?_); conv => whnf) | (refine draw_i 16 plGL10a_0 (by decide +kernel) ?_; (conv => whnf); fail_if_success (guard_target =~ False)) | (refine draw_i 16 plGL10a_1 (by decide +kernel) ?_; (conv => whnf); fail_if_success (guard_target =~ False)) | (refine draw_i 16 plGL10a_2 (by decide +kernel) ?_; (conv => whnf); fail_if_success (guard_target =~ False)) | ((with_reducible refine And.intro ?_ ?_) <;> (conv => whnf)) | (with_reducible exact trivial) | ((with_reducible refine branch_d (fun hq => ?_) (fun hq => ?_)) <;> (try (exfalso; omega)) <;> (conv => whnf)) | ((with_reducible refine branch_e (fun hq => ?_) (fun hq => ?_)) <;> (try (exfalso; omega)) <;> (conv => whnf)) | ((with_reducible refine branch_n (fun hq => ?_) (fun hq => ?_)) <;> (try (exfalso; omega)) <;> (conv => whnf)) | ((with_reducible refine branch_i (fun hq => ?_) (fun hq => ?_)) <;> (try (exfalso; omega)) <;> (conv => whnf))))
  refine loop_i (fun k : Nat => k ≤ P.rows.length ∧ ∀ j, j < k → (rowAt P.rows j).least ≤ nth xs j ∧ nth xs j ≤ (rowAt P.rows j).most) (fun k => mkSt [(1, .ref [ints xs]), (6, rowsV P.rows), (7, .int .i64 (P.rows.map encRow).length), (8, .int .i64 k)] [] false) (fun k => P.rows.length - k) 0 ⟨Nat.zero_le _, nofun⟩ (le_mk (by repeat' (first | exact trivial | rfl | apply And.intro)) (by repeat' (first | exact trivial | rfl | apply And.intro)) rfl) ?_
  rintro k ⟨hk, hall⟩
  (conv => whnf); (repeat' (first | (refine arith_i ⟨by omega, by omega⟩ ?_; conv => whnf) | (refine arith_u ⟨by omega, by omega⟩ ?_; conv => whnf) | (refine arith_8 ⟨by omega, by omega⟩ ?_; conv => whnf) | (refine need_i (by first | omega | (simp only [List.length_cons, List.length_nil]; omega) | (simp only [List.length_append, List.length_cons, List.length_nil, List.length_map, List.length_replicate, List.length_modify]; omega)) ?_; conv => whnf) | ((with_reducible refine branch_tt ?_); conv => whnf) | ((with_reducible refine branch_ff ?_); conv => whnf) | (with_reducible refine branch_not ?_) | ((first | refine idx_cs (by assumption) ?_ | (refine idx_c (xs := P.rows) (by omega) fun r hrr => ?_; have hra := rowAt_eq hrr) | (refine idx_c (xs := xs) (by omega) fun x hx => ?_; have hxa := nth_eq hx)); conv => whnf) | ((with_reducible refine slc_e ?_); conv => whnf) | ((with_reducible refine callS_a ?_); conv => whnf) | ((with_reducible refine bld_a ?_); conv => whnf) | ((with_reducible refine own_e ?_); conv => whnf) | ((with_reducible refine mkmap_b ?_); conv => whnf) | (refine draw_i 16 plGL10a_0 (by decide +kernel) ?_; (conv => whnf); fail_if_success (guard_target =~ False)) | (refine draw_i 16 plGL10a_1 (by decide +kernel) ?_; (conv => whnf); fail_if_success (guard_target =~ False)) | (refine draw_i 16 plGL10a_2 (by decide +kernel) ?_; (conv => whnf); fail_if_success (guard_target =~ False)) | ((with_reducible refine And.intro ?_ ?_) <;> (conv => whnf)) | (with_reducible exact trivial) | ((with_reducible refine branch_d (fun hq => ?_) (fun hq => ?_)) <;> (try (exfalso; omega)) <;> (conv => whnf)) | ((with_reducible refine branch_e (fun hq => ?_) (fun hq => ?_)) <;> (try (exfalso; omega)) <;> (conv => whnf)) | ((with_reducible refine branch_n (fun hq => ?_) (fun hq => ?_)) <;> (try (exfalso; omega)) <;> (conv => whnf)) | ((with_reducible refine branch_i (fun hq => ?_) (fun hq => ?_)) <;> (try (exfalso; omega)) <;> (conv => whnf))))
  all_goals first
    | (refine ret_p rfl (bool_eq ?_); symm; exact sumsOk_bad (k := k) (by omega) (by rw [hra, hxa]; omega))
    | (refine ⟨k + 1, ⟨by omega, fun j hj => ?_⟩, (le_mk (by repeat' (first | exact trivial | rfl | apply And.intro)) (by repeat' (first | exact trivial | rfl | apply And.intro)) rfl), by omega⟩
       by_cases e : j = k
       · subst e; rw [hra, hxa]; omega
       · exact hall j (by omega))
    | (refine ret_p rfl (bool_eq ?_); symm; exact sumsOk_good fun j hj => hall j (by omega))
def addF (rows : List Row) (xs : List Int) (o t : Int) : List Int := (List.range xs.length).map fun j => nth xs j + t * nth (rowAt rows j).coefs o.toNat
theorem addF_len {rows : List Row} {xs : List Int} {o t : Int} : (addF rows xs o t).length = xs.length := by simp [addF]
theorem addF_nth {rows : List Row} {xs : List Int} {o t : Int} {j : Nat} (h : j < xs.length) : nth (addF rows xs o t) j = nth xs j + t * nth (rowAt rows j).coefs o.toNat := by
  simp [addF, nth, List.getD_eq_getElem?_getD, h]
set_option maxHeartbeats 2000000 in
theorem add_ok (P : Prog) (xs : List Int) (o t : Int) (hv : validB P = true) (ho : 0 ≤ o ∧ o < P.costs.length) (ht : t = 1 ∨ t = -1) (hx : ∀ j, j < xs.length → -1000000 ≤ nth xs j ∧ nth xs j ≤ 1000000) (hl : xs.length = P.rows.length) : GoodM Try.prog TT false 63 [.int .i64 o, .int .i64 t, .ptr 1000 0, .ptr 1001 0] [(1000, [ints P.costs, rowsV P.rows]), (1001, [.own 1101 3 1 (xs.map encI)])]
    (fun r ov bx => r = .tup [] ∧ ov = [] ∧ bx = [(1000, [ints P.costs, rowsV P.rows]), (1001, [.own 1101 3 1 ((addF P.rows xs o t).map encI)])]) := by
  have LR : (P.rows.map encRow).length = P.rows.length := List.length_map ..
  have hr := (validB_parts hv).2.1
  refine good_of_m (fun _ => false) mixed tabOk Try.func63 rfl rfl Try.ntmps63 Try.results63 rfl rfl ?_
  (conv => whnf); (repeat' (first | (refine arith_i ⟨by omega, by omega⟩ ?_; conv => whnf) | (refine arith_u ⟨by omega, by omega⟩ ?_; conv => whnf) | (refine arith_8 ⟨by omega, by omega⟩ ?_; conv => whnf) | (refine need_i (by first | omega | (simp only [List.length_cons, List.length_nil]; omega) | (simp only [List.length_append, List.length_cons, List.length_nil, List.length_map, List.length_replicate, List.length_modify]; omega)) ?_; conv => whnf) | ((with_reducible refine branch_tt ?_); conv => whnf) | ((with_reducible refine branch_ff ?_); conv => whnf) | (with_reducible refine branch_not ?_) | ((with_reducible refine slc_e ?_); conv => whnf) | ((with_reducible refine callS_a ?_); conv => whnf) | ((with_reducible refine bld_a ?_); conv => whnf) | ((with_reducible refine own_e ?_); conv => whnf) | ((with_reducible refine mkmap_b ?_); conv => whnf) | (refine draw_i 14 plGL10a_3 (by decide +kernel) ?_; (conv => whnf); fail_if_success (guard_target =~ False)) | (refine draw_i 14 plGL10a_4 (by decide +kernel) ?_; (conv => whnf); fail_if_success (guard_target =~ False)) | (refine draw_i 13 plGL10a_5 (by decide +kernel) ?_; (conv => whnf); fail_if_success (guard_target =~ False)) | ((with_reducible refine And.intro ?_ ?_) <;> (conv => whnf)) | (with_reducible exact trivial) | ((with_reducible refine branch_d (fun hq => ?_) (fun hq => ?_)) <;> (try (exfalso; omega)) <;> (conv => whnf)) | ((with_reducible refine branch_e (fun hq => ?_) (fun hq => ?_)) <;> (try (exfalso; omega)) <;> (conv => whnf)) | ((with_reducible refine branch_n (fun hq => ?_) (fun hq => ?_)) <;> (try (exfalso; omega)) <;> (conv => whnf)) | ((with_reducible refine branch_i (fun hq => ?_) (fun hq => ?_)) <;> (try (exfalso; omega)) <;> (conv => whnf))))
  refine loop_i2 (fun (k : Nat) (ys : List Int) => k ≤ P.rows.length ∧ ys.length = xs.length ∧ (∀ j, j < k → nth ys j = nth xs j + t * nth (rowAt P.rows j).coefs o.toNat) ∧ ∀ j, k ≤ j → nth ys j = nth xs j) (fun k ys => mkSt [(0, .int .i64 o), (1, .int .i64 t), (3, .ptr 1001 0), (9, rowsV P.rows), (10, .int .i64 (P.rows.map encRow).length), (11, .int .i64 k)] [(1000, [ints P.costs, rowsV P.rows]), (1001, [.own 1101 3 1 (ys.map encI)])] false) (fun k _ => P.rows.length - k) 0 xs ⟨Nat.zero_le _, rfl, nofun, fun _ _ => rfl⟩ (le_mk (by repeat' (first | exact trivial | rfl | apply And.intro)) (by repeat' (first | exact trivial | rfl | apply And.intro)) rfl) ?_
  rintro k ys ⟨hk, hyl, hd, hn⟩
  have LY : (ys.map encI).length = ys.length := List.length_map ..
  (conv => whnf); (repeat' (first | (refine arith_i ⟨by omega, by omega⟩ ?_; conv => whnf) | (refine arith_u ⟨by omega, by omega⟩ ?_; conv => whnf) | (refine arith_8 ⟨by omega, by omega⟩ ?_; conv => whnf) | (refine need_i (by first | omega | (simp only [List.length_cons, List.length_nil]; omega) | (simp only [List.length_append, List.length_cons, List.length_nil, List.length_map, List.length_replicate, List.length_modify]; omega)) ?_; conv => whnf) | ((with_reducible refine branch_tt ?_); conv => whnf) | ((with_reducible refine branch_ff ?_); conv => whnf) | (with_reducible refine branch_not ?_) | ((first | refine idx_cs (by assumption) ?_ | (refine idx_c (xs := P.rows) (by omega) fun r hrr => ?_; have hra := rowAt_eq hrr; have hvr := valid_rows hv (List.mem_of_getElem? hrr); have LC : (r.coefs.map encI).length = r.coefs.length := List.length_map ..) | (refine idx_c (xs := ys) (by omega) fun y hy => ?_; have hya := nth_eq hy; have hyb := hn k (Nat.le_refl _); have hxb := hx k (by omega)) | (refine idx_m (xs := r.coefs) (by omega) (by omega) fun c hc => ?_; have hca := nth_eq hc; have hcb := hvr.2.1 o.toNat (by omega); have hm : t * c = c ∨ t * c = -c := by {rcases ht with e | e <;> subst e <;> omega})); conv => whnf) | ((with_reducible refine slc_e ?_); conv => whnf) | ((with_reducible refine callS_a ?_); conv => whnf) | ((with_reducible refine bld_a ?_); conv => whnf) | ((with_reducible refine own_e ?_); conv => whnf) | ((with_reducible refine mkmap_b ?_); conv => whnf) | (refine draw_i 14 plGL10a_4 (by decide +kernel) ?_; (conv => whnf); fail_if_success (guard_target =~ False)) | (refine draw_i 13 plGL10a_5 (by decide +kernel) ?_; (conv => whnf); fail_if_success (guard_target =~ False)) | (refine draw_i 14 plGL10a_3 (by decide +kernel) ?_; (conv => whnf); fail_if_success (guard_target =~ False)) | ((with_reducible refine And.intro ?_ ?_) <;> (conv => whnf)) | (with_reducible exact trivial) | ((with_reducible refine branch_d (fun hq => ?_) (fun hq => ?_)) <;> (try (exfalso; omega)) <;> (conv => whnf)) | ((with_reducible refine branch_e (fun hq => ?_) (fun hq => ?_)) <;> (try (exfalso; omega)) <;> (conv => whnf)) | ((with_reducible refine branch_n (fun hq => ?_) (fun hq => ?_)) <;> (try (exfalso; omega)) <;> (conv => whnf)) | ((with_reducible refine branch_i (fun hq => ?_) (fun hq => ?_)) <;> (try (exfalso; omega)) <;> (conv => whnf))))
  all_goals first
    | (obtain rfl : ys = addF P.rows xs o t := nth_ext (by rw [addF_len]; exact hyl) fun j hj => by rw [hd j (by omega), addF_nth (by omega)]
       exact retM_i (.tup []) [] [(1000, [ints P.costs, rowsV P.rows]), (1001, [.own 1101 3 1 ((addF P.rows xs o t).map encI)])] rfl (le_mk (by repeat' (first | exact trivial | rfl | apply And.intro)) (by repeat' (first | exact trivial | rfl | apply And.intro)) rfl) rfl ⟨rfl, rfl, rfl⟩)
    | (refine ⟨k + 1, ys.set k (y + t * c), ⟨by omega, by simp; exact hyl, fun j hj => ?_, fun j hj => ?_⟩, le_mk ⟨rfl, rfl, rfl, rfl, rfl, rfl, trivial⟩ ⟨rfl, by rw [← encI_set]; rfl, trivial⟩ rfl, by omega⟩
       · rw [nth_set]
         by_cases e : j = k
         · subst e
           rw [if_pos ⟨rfl, by omega⟩, hra, hca, ← hya, hyb]
         · rw [if_neg (fun h => e h.1)]; exact hd j (by omega)
       · rw [nth_set, if_neg (fun h => by omega)]; exact hn j (by omega))
end Go.Proofs.Ytiionjpinainlaa
end

/- slices.Repeat, bits.Mul with small numbers. -/
section
namespace Go.Proofs.Ytiionjpinainlaa
set_option linter.unusedVariables false
set_option linter.unusedSimpArgs false
set_option linter.unnecessarySimpa false
set_option linter.unusedSectionVars false
set_option maxRecDepth 10000
open Go.RowKit
def plGL09rep_0 : Plan := (.take 0 (.take 1 (.take 2 (.take 4 (.take 5 (.alt 3 (.alt 6 (.alt 7 (.take 8 (.take 9 .done)) .stop) .stop) (.alt 6 (.alt 3 (.alt 7 (.take 8 (.take 9 .done)) .stop) .stop) .stop)))))))
theorem and_mask {n : Int} (h : 0 ≤ n ∧ n ≤ 1000) : IntKind.wrap .u64 ((BitVec.ofInt IntKind.u64.bits n &&& BitVec.ofInt IntKind.u64.bits 4294967295).toNat : Int) = n := by
  obtain ⟨m, rfl⟩ : ∃ m : Nat, n = m := ⟨n.toNat, by omega⟩
  have hm : m ≤ 1000 := by omega
  have e1 : (BitVec.ofInt IntKind.u64.bits (m : Int)).toNat = m := by
    show (BitVec.ofInt 64 (m : Int)).toNat = m
    rw [BitVec.toNat_ofInt]; omega
  have e2 : (BitVec.ofInt IntKind.u64.bits 4294967295).toNat = 2 ^ 32 - 1 := by decide
  rw [BitVec.toNat_and, e1, e2, Nat.and_two_pow_sub_one_eq_mod, Nat.mod_eq_of_lt (by omega)]
  show ((m : Int) % 18446744073709551616) = m
  omega
theorem shr32 {n : Int} (h : 0 ≤ n ∧ n ≤ 1000) : n.fdiv (2 ^ min (32 : Int).toNat IntKind.u64.bits) = 0 := by
  show n.fdiv 4294967296 = 0
  rw [Int.fdiv_eq_ediv_of_nonneg _ (by omega)]
  omega
theorem mul64_ok (n : Int) (h : 0 ≤ n ∧ n ≤ 1000) : Good Try.prog TT false 95 [.int .u64 1, .int .u64 n] (· = .tup [.int .u64 0, .int .u64 n]) := by
  have a1 := and_mask (n := 1) (by omega)
  have a0 := and_mask (n := 0) (by omega)
  have an := and_mask h
  have s1 := shr32 (n := 1) (by omega)
  have s0 := shr32 (n := 0) (by omega)
  have sn := shr32 h
  refine good_of mixed tabOk Try.func95 rfl rfl Try.ntmps95 Try.results95 rfl rfl ?_
  (conv => whnf); (repeat' (first | (refine arith_i ⟨by omega, by omega⟩ ?_; conv => whnf) | (refine arith_u ⟨by omega, by omega⟩ ?_; conv => whnf) | (refine arith_8 ⟨by omega, by omega⟩ ?_; conv => whnf) | (refine need_i (by first | omega | (simp only [List.length_cons, List.length_nil]; omega) | (simp only [List.length_append, List.length_cons, List.length_nil, List.length_map, List.length_replicate, List.length_modify]; omega)) ?_; conv => whnf) | ((with_reducible refine branch_tt ?_); conv => whnf) | ((with_reducible refine branch_ff ?_); conv => whnf) | (with_reducible refine branch_not ?_) | ((simp only [a1, a0, an, s1, s0, sn, Int.one_mul, Int.zero_mul, Int.mul_zero, Int.add_zero, Int.zero_add]); conv => whnf) | ((with_reducible refine slc_e ?_); conv => whnf) | ((with_reducible refine callS_a ?_); conv => whnf) | ((with_reducible refine bld_a ?_); conv => whnf) | ((with_reducible refine own_e ?_); conv => whnf) | ((with_reducible refine mkmap_b ?_); conv => whnf) | ((with_reducible refine branch_d (fun hq => ?_) (fun hq => ?_)) <;> (try (exfalso; omega)) <;> (conv => whnf)) | ((with_reducible refine branch_e (fun hq => ?_) (fun hq => ?_)) <;> (try (exfalso; omega)) <;> (conv => whnf)) | ((with_reducible refine branch_n (fun hq => ?_) (fun hq => ?_)) <;> (try (exfalso; omega)) <;> (conv => whnf)) | ((with_reducible refine branch_i (fun hq => ?_) (fun hq => ?_)) <;> (try (exfalso; omega)) <;> (conv => whnf))))
  exact ret_t (rs := [.int .u64 0, .int .u64 n]) ⟨(rc_p rfl).g, (rc_p rfl).g, trivial⟩ rfl
theorem mul_ok (n : Int) (h : 0 ≤ n ∧ n ≤ 1000) : Good Try.prog TT false 74 [.int .u64 1, .int .u64 n] (· = .tup [.int .u64 0, .int .u64 n]) := by
  refine good_of mixed tabOk Try.func74 rfl rfl Try.ntmps74 Try.results74 rfl rfl ?_
  (conv => whnf); (repeat' (first | (refine arith_i ⟨by omega, by omega⟩ ?_; conv => whnf) | (refine arith_u ⟨by omega, by omega⟩ ?_; conv => whnf) | (refine arith_8 ⟨by omega, by omega⟩ ?_; conv => whnf) | (refine need_i (by first | omega | (simp only [List.length_cons, List.length_nil]; omega) | (simp only [List.length_append, List.length_cons, List.length_nil, List.length_map, List.length_replicate, List.length_modify]; omega)) ?_; conv => whnf) | ((with_reducible refine branch_tt ?_); conv => whnf) | ((with_reducible refine branch_ff ?_); conv => whnf) | (with_reducible refine branch_not ?_) | ((refine call_e (mul64_ok n h) ?_); conv => whnf) | ((with_reducible refine slc_e ?_); conv => whnf) | ((with_reducible refine callS_a ?_); conv => whnf) | ((with_reducible refine bld_a ?_); conv => whnf) | ((with_reducible refine own_e ?_); conv => whnf) | ((with_reducible refine mkmap_b ?_); conv => whnf) | ((with_reducible refine branch_d (fun hq => ?_) (fun hq => ?_)) <;> (try (exfalso; omega)) <;> (conv => whnf)) | ((with_reducible refine branch_e (fun hq => ?_) (fun hq => ?_)) <;> (try (exfalso; omega)) <;> (conv => whnf)) | ((with_reducible refine branch_n (fun hq => ?_) (fun hq => ?_)) <;> (try (exfalso; omega)) <;> (conv => whnf)) | ((with_reducible refine branch_i (fun hq => ?_) (fun hq => ?_)) <;> (try (exfalso; omega)) <;> (conv => whnf))))
  exact ret_t (rs := [.int .u64 0, .int .u64 n]) ⟨(rc_p rfl).g, (rc_p rfl).g, trivial⟩ rfl
def repC (k n : Nat) : List (List AV) := List.replicate k [AV.int .i64 (-1)] ++ List.replicate (n - k) [AV.int .i64 0]
theorem repC_len {k n : Nat} (h : k ≤ n) : (repC k n).length = n := by simp [repC]; omega
theorem repC_take {k n : Nat} : (repC k n).take k = List.replicate k [AV.int .i64 (-1)] := by simp [repC]
theorem repC_spl {k n m : Nat} (h : k + m ≤ n) (hm : m ≤ k) : spl (repC k n) k ((List.replicate k [AV.int .i64 (-1)]).take m) = repC (k + m) n := by
  have e1 : (List.replicate k [AV.int .i64 (-1)]).take m = List.replicate m [AV.int .i64 (-1)] := by rw [List.take_replicate, Nat.min_eq_left hm]
  have e2 : (repC k n).drop (k + m) = List.replicate (n - (k + m)) [AV.int .i64 0] := by
    rw [repC, List.drop_append, List.length_replicate, List.drop_of_length_le (by simp), List.nil_append, List.drop_replicate]
    congr 1
    omega
  rw [spl, repC_take, e1, List.length_replicate, e2, ← List.append_assoc, List.replicate_append_replicate]
  rfl
theorem repC_first {n : Nat} (h : 0 < n) : spl (List.replicate n [AV.int .i64 0]) 0 ([[AV.int .i64 (-1)]].take n) = repC 1 n := by
  obtain ⟨m, rfl⟩ : ∃ m, n = m + 1 := ⟨n - 1, by omega⟩
  simp [spl, repC, List.replicate_succ]
theorem sub_lo {k n : Nat} {K : List (List AV) → Prop} (h : k ≤ n) (hK : K (List.replicate (n - k) [AV.int .i64 0])) : sub (repC k n) (k : Int) ((repC k n).length : Int) K := by
  have L := repC_len h
  refine sub_i ⟨by omega, by omega, by omega⟩ ?_
  have e : ((repC k n).take ((repC k n).length : Int).toNat).drop (k : Int).toNat = List.replicate (n - k) [AV.int .i64 0] := by
    rw [Int.toNat_natCast, Int.toNat_natCast, List.take_length, repC, List.drop_append]; simp
  rw [e]; exact hK
theorem sub_hi {k n : Nat} {K : List (List AV) → Prop} (h : k ≤ n) (hK : K (List.replicate k [AV.int .i64 (-1)])) : sub (repC k n) 0 (k : Int) K := by
  have L := repC_len h
  refine sub_i ⟨by omega, by omega, by omega⟩ ?_
  have e : ((repC k n).take (k : Int).toNat).drop (0 : Int).toNat = List.replicate k [AV.int .i64 (-1)] := by
    rw [Int.toNat_natCast, repC_take]; simp
  rw [e]; exact hK
theorem repC_full (n : Nat) : repC n n = (List.replicate n (-1 : Int)).map encI := by simp [repC, encI]
theorem repeat_ok (n : Nat) (hn : n ≤ 12) : Good Try.prog TT false 46 [ints [-1], .int .i64 n] (· = .own 0 3 1 ((List.replicate n (-1 : Int)).map encI)) := by
  have L1 : (List.map encI [-1]).length = 1 := rfl
  have LR : (List.replicate (n : Int).toNat [AV.int .i64 0]).length = n := by simp
  have eN : (n : Int).toNat = n := by omega
  refine good_of mixed tabOk Try.func46 rfl rfl Try.ntmps46 Try.results46 rfl rfl ?_
  (conv => whnf); (repeat' (first | (refine arith_i ⟨by omega, by omega⟩ ?_; conv => whnf) | (refine arith_u ⟨by omega, by omega⟩ ?_; conv => whnf) | (refine arith_8 ⟨by omega, by omega⟩ ?_; conv => whnf) | (refine need_i (by first | omega | (simp only [List.length_cons, List.length_nil]; omega) | (simp only [List.length_append, List.length_cons, List.length_nil, List.length_map, List.length_replicate, List.length_modify]; omega)) ?_; conv => whnf) | ((with_reducible refine branch_tt ?_); conv => whnf) | ((with_reducible refine branch_ff ?_); conv => whnf) | (with_reducible refine branch_not ?_) | ((refine call_e (mul_ok n (by omega)) ?_); conv => whnf) | ((with_reducible refine slc_e ?_); conv => whnf) | ((with_reducible refine callS_a ?_); conv => whnf) | ((with_reducible refine bld_a ?_); conv => whnf) | ((with_reducible refine own_e ?_); conv => whnf) | ((with_reducible refine mkmap_b ?_); conv => whnf) | (refine draw_i 10 plGL09rep_0 (by decide +kernel) ?_; (conv => whnf); fail_if_success (guard_target =~ False)) | ((with_reducible refine And.intro ?_ ?_) <;> (conv => whnf)) | (with_reducible exact trivial) | ((with_reducible refine branch_d (fun hq => ?_) (fun hq => ?_)) <;> (try (exfalso; omega)) <;> (conv => whnf)) | ((with_reducible refine branch_e (fun hq => ?_) (fun hq => ?_)) <;> (try (exfalso; omega)) <;> (conv => whnf)) | ((with_reducible refine branch_n (fun hq => ?_) (fun hq => ?_)) <;> (try (exfalso; omega)) <;> (conv => whnf)) | ((with_reducible refine branch_i (fun hq => ?_) (fun hq => ?_)) <;> (try (exfalso; omega)) <;> (conv => whnf))))
  · refine loop_i (fun k : Nat => 1 ≤ k ∧ k ≤ n) (fun k => mkSt [(7, .own 30 3 1 (repC k n)), (8, .int .i64 k)] [] false) (fun k => n - k) 1 ⟨by omega, by omega⟩ (le_mk ⟨?_, int_eq (by rw [L1, LR]; omega), trivial⟩ trivial rfl) ?_
    · rw [← repC_first (by omega)]
      conv => rhs; rw [← eN]
      show AV.own 30 3 1 (spl (List.replicate (n : Int).toNat [AV.int .i64 0]) 0 ((List.map encI [-1]).take (List.replicate (n : Int).toNat [AV.int .i64 0]).length)) = _
      rw [LR, eN]; rfl
    rintro k ⟨h1, h2⟩
    have LC := repC_len h2
    have LZ : (List.replicate (n - k) [AV.int .i64 0]).length = n - k := by simp
    have LA : (List.replicate k [AV.int .i64 (-1)]).length = k := by simp
    (conv => whnf); (repeat' (first | (refine arith_i ⟨by omega, by omega⟩ ?_; conv => whnf) | (refine arith_u ⟨by omega, by omega⟩ ?_; conv => whnf) | (refine arith_8 ⟨by omega, by omega⟩ ?_; conv => whnf) | (refine need_i (by first | omega | (simp only [List.length_cons, List.length_nil]; omega) | (simp only [List.length_append, List.length_cons, List.length_nil, List.length_map, List.length_replicate, List.length_modify]; omega)) ?_; conv => whnf) | ((with_reducible refine branch_tt ?_); conv => whnf) | ((with_reducible refine branch_ff ?_); conv => whnf) | (with_reducible refine branch_not ?_) | ((refine slc_w ?_); conv => whnf) | ((refine sub_lo h2 ?_); conv => whnf) | ((refine sub_hi h2 ?_); conv => whnf) | ((with_reducible refine slc_e ?_); conv => whnf) | ((with_reducible refine callS_a ?_); conv => whnf) | ((with_reducible refine bld_a ?_); conv => whnf) | ((with_reducible refine own_e ?_); conv => whnf) | ((with_reducible refine mkmap_b ?_); conv => whnf) | (refine draw_i 10 plGL09rep_0 (by decide +kernel) ?_; (conv => whnf); fail_if_success (guard_target =~ False)) | ((with_reducible refine And.intro ?_ ?_) <;> (conv => whnf)) | (with_reducible exact trivial) | ((with_reducible refine branch_d (fun hq => ?_) (fun hq => ?_)) <;> (try (exfalso; omega)) <;> (conv => whnf)) | ((with_reducible refine branch_e (fun hq => ?_) (fun hq => ?_)) <;> (try (exfalso; omega)) <;> (conv => whnf)) | ((with_reducible refine branch_n (fun hq => ?_) (fun hq => ?_)) <;> (try (exfalso; omega)) <;> (conv => whnf)) | ((with_reducible refine branch_i (fun hq => ?_) (fun hq => ?_)) <;> (try (exfalso; omega)) <;> (conv => whnf))))
    all_goals first
      | (refine ⟨k + min k (n - k), ⟨by omega, by omega⟩, le_mk ⟨?_, int_eq (by rw [LZ, LA]; omega), trivial⟩ trivial rfl, by omega⟩
         rw [← repC_spl (m := min k (n - k)) (by omega) (by omega)]
         show AV.own 30 3 1 (spl (repC k n) (k : Int).toNat ((List.replicate k [AV.int .i64 (-1)]).take (List.replicate (n - k) [AV.int .i64 0]).length)) = _
         rw [LZ, Int.toNat_natCast, show (List.replicate k [AV.int .i64 (-1)]).take (n - k) = (List.replicate k [AV.int .i64 (-1)]).take (min k (n - k)) by rw [List.take_replicate, List.take_replicate]; congr 1; omega])
      | (have hk : k = n := by omega
         subst hk
         exact ret_o (by rw [repC_full]))
  · have h0 : n = 0 := by omega
    subst h0
    refine loop_i (fun _ : Unit => True) (fun _ => mkSt [(7, .own 30 3 1 []), (8, .int .i64 0)] [] false) (fun _ => 0) () trivial (le_mk (by repeat' (first | exact trivial | rfl | apply And.intro)) (by repeat' (first | exact trivial | rfl | apply And.intro)) rfl) ?_
    intro _ _
    have L0 : ([] : List (List AV)).length = 0 := rfl
    (conv => whnf); (repeat' (first | (refine arith_i ⟨by omega, by omega⟩ ?_; conv => whnf) | (refine arith_u ⟨by omega, by omega⟩ ?_; conv => whnf) | (refine arith_8 ⟨by omega, by omega⟩ ?_; conv => whnf) | (refine need_i (by first | omega | (simp only [List.length_cons, List.length_nil]; omega) | (simp only [List.length_append, List.length_cons, List.length_nil, List.length_map, List.length_replicate, List.length_modify]; omega)) ?_; conv => whnf) | ((with_reducible refine branch_tt ?_); conv => whnf) | ((with_reducible refine branch_ff ?_); conv => whnf) | (with_reducible refine branch_not ?_) | ((with_reducible refine slc_e ?_); conv => whnf) | ((with_reducible refine callS_a ?_); conv => whnf) | ((with_reducible refine bld_a ?_); conv => whnf) | ((with_reducible refine own_e ?_); conv => whnf) | ((with_reducible refine mkmap_b ?_); conv => whnf) | (refine draw_i 10 plGL09rep_0 (by decide +kernel) ?_; (conv => whnf); fail_if_success (guard_target =~ False)) | ((with_reducible refine And.intro ?_ ?_) <;> (conv => whnf)) | (with_reducible exact trivial) | ((with_reducible refine branch_d (fun hq => ?_) (fun hq => ?_)) <;> (try (exfalso; omega)) <;> (conv => whnf)) | ((with_reducible refine branch_e (fun hq => ?_) (fun hq => ?_)) <;> (try (exfalso; omega)) <;> (conv => whnf)) | ((with_reducible refine branch_n (fun hq => ?_) (fun hq => ?_)) <;> (try (exfalso; omega)) <;> (conv => whnf)) | ((with_reducible refine branch_i (fun hq => ?_) (fun hq => ?_)) <;> (try (exfalso; omega)) <;> (conv => whnf))))
    exact ret_o rfl
end Go.Proofs.Ytiionjpinainlaa
end

/- Layer 9, the reference by the interpreter: row, Bound, leaf. -/
section
namespace Go.Proofs.Ytiionjpinainlaa
set_option linter.unusedVariables false
set_option linter.unusedSimpArgs false
set_option linter.unnecessarySimpa false
set_option linter.unusedSectionVars false
set_option maxRecDepth 10000
open Go.RowKit

end Go.Proofs.Ytiionjpinainlaa
end

/- Layer 9: the generator of programs, also with a mistake. -/
section
namespace Go.Proofs.Ytiionjpinainlaa
set_option linter.unusedVariables false
set_option linter.unusedSimpArgs false
set_option linter.unnecessarySimpa false
set_option linter.unusedSectionVars false
set_option maxRecDepth 10000
open Go.RowKit
/-- Any program that the tape makes: small. -/
def Small (P : Prog) : Prop := P.costs.length ≤ 100 ∧ P.rows.length ≤ 10 ∧ ∀ r ∈ P.rows, r.coefs.length ≤ 100
end Go.Proofs.Ytiionjpinainlaa
end

/- Layer 9: the generators Bent, Leaf, State. -/
section
namespace Go.Proofs.Ytiionjpinainlaa
set_option linter.unusedVariables false
set_option linter.unusedSimpArgs false
set_option linter.unnecessarySimpa false
set_option linter.unusedSectionVars false
set_option maxRecDepth 10000
open Go.RowKit
theorem map_modify {α : Type} {enc : α → List AV} {f : List AV → List AV} {g : α → α} (h : ∀ x, f (enc x) = enc (g x)) : ∀ (l : List α) (i : Nat), (l.map enc).modify i f = (l.modify i g).map enc
  | [], i => by simp
  | x :: l, 0 => by simp [List.modify_zero_cons, h]
  | x :: l, i + 1 => by simp only [List.map_cons, List.modify_succ_cons, map_modify h l i]
/-- What the tape makes a leaf: a dead row, or some bound. -/
def LeafG (P : Prog) (st : List Int) (n : Nd) : Prop := (n.kind = 2 ∧ n.row = deadF P st ∧ 0 ≤ deadF P st) ∨ n.kind = 3
end Go.Proofs.Ytiionjpinainlaa
end

/- Layer 9: States. -/
section
namespace Go.Proofs.Ytiionjpinainlaa
set_option linter.unusedVariables false
set_option linter.unusedSimpArgs false
set_option linter.unnecessarySimpa false
set_option linter.unusedSectionVars false
set_option maxRecDepth 10000
open Go.RowKit
/-- A branch as it should be. -/
def brC (c N i : Nat) (n : Nd) (out : List (List Int)) (kn : List Bool) : Prop := (i : Int) < n.zero ∧ n.zero < N ∧ (i : Int) < n.one ∧ n.one < N ∧ n.zero ≠ n.one ∧ 0 ≤ n.var ∧ n.var < c ∧ kn.getD n.zero.toNat false = false ∧ kn.getD n.one.toNat false = false ∧ nth (out.getD i []) n.var.toNat = -1
instance (c N i : Nat) (n : Nd) (out : List (List Int)) (kn : List Bool) : Decidable (brC c N i n out kn) := by unfold brC; infer_instance
def encS (st : List Int) : List AV := [ints st]
end Go.Proofs.Ytiionjpinainlaa
end

/- Layer 9: Proved. -/
section
namespace Go.Proofs.Ytiionjpinainlaa
set_option linter.unusedVariables false
set_option linter.unusedSimpArgs false
set_option linter.unnecessarySimpa false
set_option linter.unusedSectionVars false
set_option maxRecDepth 10000
open Go.RowKit
theorem stO_set {c : Nat} {st : List Int} {v : Nat} {x : Int} (h : stOB st c = true) (hx : -1 ≤ x ∧ x ≤ 1) : stOB (st.set v x) c = true := by
  simp only [stOB, Bool.and_eq_true, decide_eq_true_eq, List.length_set, List.all_eq_true] at h ⊢
  refine ⟨h.1, fun y hy => ?_⟩
  rcases List.mem_or_eq_of_mem_set hy with h' | rfl
  · exact h.2 y h'
  · simp [tri9]; omega
theorem st_len {st : List Int} {c : Nat} (h : stOB st c = true) : st.length = c := by simp [stOB] at h; omega
end Go.Proofs.Ytiionjpinainlaa
end

/- Layer 9: Check. -/
section
namespace Go.Proofs.Ytiionjpinainlaa
set_option linter.unusedVariables false
set_option linter.unusedSimpArgs false
set_option linter.unnecessarySimpa false
set_option linter.unusedSectionVars false
set_option maxRecDepth 10000
open Go.RowKit


structure Pln where
  found : Bool
  chosen : List Int
  cost : Int
  nodes : List Nd
end Go.Proofs.Ytiionjpinainlaa
end

/- Layer 10: what is done with each choice: All keeps it, Solve keeps the cheapest. -/
section
namespace Go.Proofs.Ytiionjpinainlaa
set_option linter.unusedVariables false
set_option linter.unusedSimpArgs false
set_option linter.unnecessarySimpa false
set_option linter.unusedSectionVars false
set_option maxRecDepth 10000
open Go.RowKit
theorem scal_ints (xs : List Int) : scalE (xs.map encI) := fun c hc v hv => by
  obtain ⟨x, _, rfl⟩ := List.mem_map.1 hc
  rw [List.mem_singleton.1 hv]; rfl
/-- The plan so far. -/
def plC (σ : Bool × Int × List Int) : List AV := [.bool σ.1, ints σ.2.2, .int .i64 σ.2.1, .nil]
set_option maxHeartbeats 2000000 in
theorem visSolve_ok (P : Prog) (ch : List Int) (σ : Bool × Int × List Int) (hc : ch.length ≤ 1000) : GoodM Try.prog TT false 34 [.own 1105 3 1 (ch.map encI), .int .i64 (sumOf P.costs ch), .ptr 1010 0] [(1010, plC σ)]
    (fun r ov bx => r = .tup [] ∧ ov = [(1000, .own 1105 3 1 (ch.map encI))] ∧ bx = [(1010, plC (bestS P σ ch))]) := by
  refine good_of_m (fun _ => false) mixed tabOk Try.func34 rfl rfl Try.ntmps34 Try.results34 rfl rfl ?_
  (conv => whnf); (repeat' (first | (refine arith_i ⟨by omega, by omega⟩ ?_; conv => whnf) | (refine arith_u ⟨by omega, by omega⟩ ?_; conv => whnf) | (refine arith_8 ⟨by omega, by omega⟩ ?_; conv => whnf) | (refine need_i (by first | omega | (simp only [List.length_cons, List.length_nil]; omega) | (simp only [List.length_append, List.length_cons, List.length_nil, List.length_map, List.length_replicate, List.length_modify]; omega)) ?_; conv => whnf) | ((with_reducible refine branch_tt ?_); conv => whnf) | ((with_reducible refine branch_ff ?_); conv => whnf) | (with_reducible refine branch_not ?_) | ((refine call_e (clone_ok ch (by omega)) ?_); conv => whnf) | ((refine own_k (scal_ints ch) ?_); conv => whnf) | ((with_reducible refine slc_e ?_); conv => whnf) | ((with_reducible refine callS_a ?_); conv => whnf) | ((with_reducible refine bld_a ?_); conv => whnf) | ((with_reducible refine own_e ?_); conv => whnf) | ((with_reducible refine mkmap_b ?_); conv => whnf) | ((with_reducible refine branch_d (fun hq => ?_) (fun hq => ?_)) <;> (try (exfalso; omega)) <;> (conv => whnf)) | ((with_reducible refine branch_e (fun hq => ?_) (fun hq => ?_)) <;> (try (exfalso; omega)) <;> (conv => whnf)) | ((with_reducible refine branch_n (fun hq => ?_) (fun hq => ?_)) <;> (try (exfalso; omega)) <;> (conv => whnf)) | ((with_reducible refine branch_i (fun hq => ?_) (fun hq => ?_)) <;> (try (exfalso; omega)) <;> (conv => whnf))))
  all_goals first
    | (have e : bestS P σ ch = (true, sumOf P.costs ch, ch) := by rw [bestS, if_pos (by first | (left; assumption) | (right; assumption))]
       rw [e]
       exact retM_i (.tup []) [(1000, .own 1105 3 1 (ch.map encI))] [(1010, [.bool true, ints ch, .int .i64 (sumOf P.costs ch), .nil])] rfl (Le.trans (le_erase 16) (le_mk ⟨rfl, rfl, trivial⟩ ⟨rfl, trivial⟩ rfl)) rfl ⟨rfl, rfl, rfl⟩)
    | (have e : bestS P σ ch = σ := by
         rw [bestS, if_neg]
         rintro (h | h)
         · simp_all
         · omega
       rw [e]
       exact retM_i (.tup []) [(1000, .own 1105 3 1 (ch.map encI))] [(1010, plC σ)] rfl (le_mk ⟨rfl, rfl, trivial⟩ ⟨rfl, trivial⟩ rfl) rfl ⟨rfl, rfl, rfl⟩)
end Go.Proofs.Ytiionjpinainlaa
end

/- Layer 10: each goes through all choices that meet a program, in ascending order. (Printed by wip/mk10c.py.) -/
section
namespace Go.Proofs.Ytiionjpinainlaa
set_option linter.unusedVariables false
set_option linter.unusedSimpArgs false
set_option linter.unnecessarySimpa false
set_option linter.unusedSectionVars false
set_option maxRecDepth 10000
open Go.RowKit
def plGL10c_0 : Plan := (.take 0 (.take 1 (.take 2 (.take 3 (.take 4 (.take 5 (.take 6 (.take 7 (.take 8 (.take 9 (.alt 10 .done .stop)))))))))))
def plGL10c_1 : Plan := (.take 0 (.take 1 (.take 2 (.take 3 (.take 4 (.take 5 (.take 6 (.take 7 (.alt 8 (.take 9 (.alt 10 .done .stop)) .stop)))))))))
def plGL10c_2 : Plan := (.take 1 (.take 2 (.take 3 (.take 4 (.take 6 (.alt 0 (.alt 5 (.take 7 (.alt 8 (.take 9 (.alt 10 .done .stop)) .stop)) .stop) (.alt 5 (.take 7 (.alt 0 (.alt 8 (.take 9 (.alt 10 .done .stop)) .stop) (.alt 8 (.take 9 (.alt 0 (.alt 10 .done .stop) .stop)) .stop))) .stop)))))))
def plGL10c_3 : Plan := (.take 1 (.take 2 (.take 3 (.take 4 (.take 6 (.alt 0 (.alt 5 (.take 7 (.alt 8 (.take 9 (.altM 10 .done .stop)) .stop)) .stop) (.alt 5 (.take 7 (.alt 0 (.alt 8 (.take 9 (.altM 10 .done .stop)) .stop) (.alt 8 (.take 9 (.alt 0 (.altM 10 .done .stop) .stop)) .stop))) .stop)))))))
def sumsF (P : Prog) (ch : List Int) : List Int := P.rows.map fun r => sumOf r.coefs ch
def srchA : List AV := [.ptr 1003 0, .ptr 1005 0, .ptr 1004 0, .ptr 1000 0, .ptr 1002 0, .ptr 1006 0]
theorem sumsF_len {P : Prog} {ch : List Int} : (sumsF P ch).length = P.rows.length := by simp [sumsF]
theorem sumsF_nth {P : Prog} {ch : List Int} {j : Nat} (h : j < P.rows.length) : nth (sumsF P ch) j = sumOf (rowAt P.rows j).coefs ch := by
  simp [sumsF, nth, rowAt, List.getD_eq_getElem?_getD, h]
theorem sums_met {P : Prog} {ch : List Int} : sumsOkB P.rows (sumsF P ch) = metB P ch := by
  cases h : metB P ch with
  | true =>
    refine sumsOk_good fun k hk => ?_
    have := List.all_eq_true.1 h _ (rowAt_mem hk)
    simp only [meetB, Bool.and_eq_true, decide_eq_true_eq] at this
    rw [sumsF_nth hk]
    exact this
  | false =>
    cases hs : sumsOkB P.rows (sumsF P ch) with
    | false => rfl
    | true =>
      have : metB P ch = true := by
        refine AllR.full (k := P.rows.length) (fun j hj => ?_) (Nat.le_refl _)
        have := List.all_eq_true.1 hs j (List.mem_range.2 hj)
        rw [sumsF_nth hj] at this
        simpa [meetB] using this
      rw [h] at this
      cases this
theorem here_met {P : Prog} {ch : List Int} (h : sumsOkB P.rows (sumsF P ch) = true) : here P ch = [ch] := by rw [here, if_pos]; rw [← sums_met]; exact h
theorem here_not {P : Prog} {ch : List Int} (h : sumsOkB P.rows (sumsF P ch) = false) : here P ch = [] := by rw [here, if_neg]; rw [← sums_met, h]; decide
theorem vis_snoc {P : Prog} {ch : List Int} {k : Nat} (hk : k < P.costs.length) : loopF P (P.costs.length - k) ch k = visF P (ch ++ [(k : Int)]) (k + 1) ++ loopF P (P.costs.length - (k + 1)) ch (k + 1) := by
  rw [show P.costs.length - k = (P.costs.length - (k + 1)) + 1 by omega, loopF, visF]
theorem asc_len {lo hi : Nat} {ch : List Int} (h : Asc lo hi ch) : ch.length ≤ hi - lo := by
  obtain ⟨h1, h2⟩ := h
  induction ch generalizing lo with
  | nil => simp
  | cons x ch ih =>
    have hp := List.pairwise_cons.1 h1
    have hx := h2 x (by simp)
    have := ih (lo := x.toNat + 1) hp.2 fun y hy => by have := hp.1 y hy; have := h2 y (by simp [hy]); omega
    simp only [List.length_cons]
    omega
theorem sum_in {P : Prog} (hv : validB P = true) {ch : List Int} (h : Asc 0 P.costs.length ch) {r : Row} (hr : r ∈ P.rows) : -1000000 ≤ sumOf r.coefs ch ∧ sumOf r.coefs ch ≤ 1000000 := by
  have h1 := valid_rows hv hr
  have h2 := asc_len h
  have h3 := (validB_parts hv).1
  have := sumTo_bd (vs := r.coefs) (ch := ch) (n := r.coefs.length) h1.2.1 ch.length fun i hi => by
    have := h.2 _ (nth_mem hi); omega
  unfold sumOf
  omega
theorem costs_sum {P : Prog} (hv : validB P = true) {ch : List Int} (h : Asc 0 P.costs.length ch) : -1000000 ≤ sumOf P.costs ch ∧ sumOf P.costs ch ≤ 1000000 := by
  have h2 := asc_len h
  have h3 := (validB_parts hv).1
  have := sumTo_bd (vs := P.costs) (ch := ch) (n := P.costs.length) (fun i hi => costs_in hv i hi) ch.length fun i hi => by
    have := h.2 _ (nth_mem hi); omega
  unfold sumOf
  omega
theorem sumsF_in {P : Prog} (hv : validB P = true) {ch : List Int} (h : Asc 0 P.costs.length ch) : ∀ j, j < (sumsF P ch).length → -1000000 ≤ nth (sumsF P ch) j ∧ nth (sumsF P ch) j ≤ 1000000 := fun j hj => by
  rw [sumsF_len] at hj
  rw [sumsF_nth hj]
  exact sum_in hv h (rowAt_mem hj)
theorem addF_on {P : Prog} {ch : List Int} {k : Nat} : addF P.rows (sumsF P ch) k 1 = sumsF P (ch ++ [(k : Int)]) := by
  refine nth_ext (by rw [addF_len, sumsF_len, sumsF_len]) fun j hj => ?_
  rw [addF_len, sumsF_len] at hj
  rw [addF_nth (by rw [sumsF_len]; exact hj), sumsF_nth hj, sumsF_nth hj, sumOf_snoc]
  omega
theorem addF_off {P : Prog} {ch : List Int} {k : Nat} : addF P.rows (sumsF P (ch ++ [(k : Int)])) k (-1) = sumsF P ch := by
  refine nth_ext (by rw [addF_len, sumsF_len, sumsF_len]) fun j hj => ?_
  rw [addF_len, sumsF_len] at hj
  rw [addF_nth (by rw [sumsF_len]; exact hj), sumsF_nth hj, sumsF_nth hj, sumOf_snoc]
  omega
theorem addOn_ok (P : Prog) (ch : List Int) (k : Nat) (hv : validB P = true) (ha : Asc 0 P.costs.length ch) (hk : k < P.costs.length) : GoodM Try.prog TT false 63 [.int .i64 k, .int .i64 1, .ptr 1000 0, .ptr 1001 0] [(1000, [ints P.costs, rowsV P.rows]), (1001, [.own 1101 3 1 ((sumsF P ch).map encI)])]
    (fun r ov bx => r = .tup [] ∧ ov = [] ∧ bx = [(1000, [ints P.costs, rowsV P.rows]), (1001, [.own 1101 3 1 ((sumsF P (ch ++ [(k : Int)])).map encI)])]) := by
  have := add_ok P (sumsF P ch) k 1 hv (by omega) (.inl rfl) (sumsF_in hv ha) sumsF_len
  rwa [addF_on] at this
theorem addOff_ok (P : Prog) (ch : List Int) (k : Nat) (hv : validB P = true) (ha : Asc 0 P.costs.length (ch ++ [(k : Int)])) (hk : k < P.costs.length) : GoodM Try.prog TT false 63 [.int .i64 k, .int .i64 (-1), .ptr 1000 0, .ptr 1001 0] [(1000, [ints P.costs, rowsV P.rows]), (1001, [.own 1101 3 1 ((sumsF P (ch ++ [(k : Int)])).map encI)])]
    (fun r ov bx => r = .tup [] ∧ ov = [] ∧ bx = [(1000, [ints P.costs, rowsV P.rows]), (1001, [.own 1101 3 1 ((sumsF P ch).map encI)])]) := by
  have := add_ok P (sumsF P (ch ++ [(k : Int)])) k (-1) hv (by omega) (.inr rfl) (sumsF_in hv ha) sumsF_len
  rwa [addF_off] at this
theorem snocI' {xs : List Int} {x : Int} : xs.map encI ++ [[AV.int .i64 x]] = (xs ++ [x]).map encI := by simp [encI]
theorem less_I {xs : List Int} {x y : Int} (h : y = ((xs ++ [x]).map encI).length - 1) : ((((xs ++ [x]).map encI).take y.toNat).drop (Int.toNat 0)) = xs.map encI := by
  have : y.toNat = (xs.map encI).length := by rw [h]; simp
  rw [this, List.map_append, List.take_left]
  rfl
theorem repl_sums (P : Prog) : List.replicate ((P.rows.map encRow).length : Int).toNat [AV.int .i64 0] = (sumsF P []).map encI := by
  have e : sumsF P [] = List.replicate P.rows.length 0 := by
    rw [sumsF]
    refine List.ext_getElem? fun i => ?_
    rw [List.getElem?_map, List.getElem?_replicate]
    split
    · next h => rw [List.getElem?_eq_getElem h]; rfl
    · next h => rw [List.getElem?_eq_none (by omega)]; rfl
  rw [e, List.map_replicate, List.length_map, Int.toNat_natCast]
  rfl
def vcS (σ : Bool × Int × List Int) : List AV := plC σ
def vstepS (P : Prog) (σ : Bool × Int × List Int) (ch : List Int) : Bool × Int × List Int := bestS P σ ch
def cndS (σ : Bool × Int × List Int) (L : List (List Int)) : Prop := True
def sBxS (P : Prog) (ch : List Int) (σ : Bool × Int × List Int) : List (Nat × List AV) := [(1000, [ints P.costs, rowsV P.rows]), (1001, [.own 1101 3 1 ((sumsF P ch).map encI)]), (1002, [.fn 63 [.ptr 1000 0, .ptr 1001 0]]), (1003, [.fn 64 [.ptr 1000 0, .ptr 1001 0]]), (1004, [.own 1104 3 1 (ch.map encI)]), (1005, [.fn 34 [.ptr 1010 0]]), (1006, [.fn 65 srchA]), (1010, vcS σ)]
theorem cndS_app {P : Prog} {a b : List (List Int)} {σ : Bool × Int × List Int} (h : cndS σ (a ++ b)) : cndS σ a ∧ cndS (a.foldl (vstepS P) σ) b := by
  unfold cndS at *
  first
    | exact ⟨trivial, trivial⟩
    | (have e : ∀ (a : List (List Int)) (σ : List (List Int)), a.foldl (vstepS P) σ = σ ++ a := fun a => by
         induction a with
         | nil => intro σ; simp
         | cons x a ih => intro σ; rw [List.foldl_cons, ih]; simp [vstepS]
       rw [e]
       simp at h ⊢
       omega)
set_option maxHeartbeats 4000000 in
theorem searchS_ok (P : Prog) (hv : validB P = true) : ∀ (m : Nat) (ch : List Int) (i : Nat) (cost : Int) (σ : Bool × Int × List Int), m = P.costs.length - i → i ≤ P.costs.length → Asc 0 i ch → cost = sumOf P.costs ch → cndS σ (visF P ch i) →
    GoodM Try.prog TT false 65 (.int .i64 i :: .int .i64 cost :: srchA) (sBxS P ch σ) (fun r ov bx => r = .tup [] ∧ ov = [] ∧ bx = sBxS P ch ((visF P ch i).foldl (vstepS P) σ)) := by
  have hr := (validB_parts hv).2.1
  have hcl := (validB_parts hv).1
  have LP : (P.costs.map encI).length = P.costs.length := List.length_map ..
  intro m
  induction m using Nat.strongRecOn with
  | ind m IH =>
    intro ch i cost τ hm hi ha hc hcnd0
    have hlen := asc_len ha
    have hcnd1 := cndS_app (P := P) hcnd0
    have hvis : visF P ch i = here P ch ++ loopF P (P.costs.length - i) ch i := rfl
    subst hc
    have hcnd := hcnd1.1
    refine good_of_m (fun _ => false) mixed tabOk Try.func65 rfl rfl Try.ntmps65 Try.results65 rfl rfl ?_
    (conv => whnf); (repeat' (first | (refine arith_i ⟨by omega, by omega⟩ ?_; conv => whnf) | (refine arith_u ⟨by omega, by omega⟩ ?_; conv => whnf) | (refine arith_8 ⟨by omega, by omega⟩ ?_; conv => whnf) | (refine need_i (by first | omega | (simp only [List.length_cons, List.length_nil]; omega) | (simp only [List.length_append, List.length_cons, List.length_nil, List.length_map, List.length_replicate, List.length_modify]; omega)) ?_; conv => whnf) | ((with_reducible refine branch_tt ?_); conv => whnf) | ((with_reducible refine branch_ff ?_); conv => whnf) | (with_reducible refine branch_not ?_) | ((refine call_e (met_ok P (sumsF P ch) sumsF_len hr) ?_); conv => whnf) | (((rw [here_met hq] at hcnd; unfold cndS at hcnd; (try simp only [List.length_singleton] at hcnd); refine mcall_e [(1010, 1010)] [(1105, 1104)] (visSolve_ok P ch τ (by omega)) rfl rfl rfl ⟨⟨_, rfl, rfl, rfl⟩, trivial⟩ rfl ?_)); conv => whnf) | ((with_reducible refine slc_e ?_); conv => whnf) | ((with_reducible refine callS_a ?_); conv => whnf) | ((with_reducible refine bld_a ?_); conv => whnf) | ((with_reducible refine own_e ?_); conv => whnf) | ((with_reducible refine mkmap_b ?_); conv => whnf) | (refine draw_i 0 plGL10c_3 (by decide +kernel) ?_; (conv => whnf); fail_if_success (guard_target =~ False)) | (refine draw_i 11 plGL10c_0 (by decide +kernel) ?_; (conv => whnf); fail_if_success (guard_target =~ False)) | (refine draw_i 11 plGL10c_1 (by decide +kernel) ?_; (conv => whnf); fail_if_success (guard_target =~ False)) | (refine draw_i 11 plGL10c_2 (by decide +kernel) ?_; (conv => whnf); fail_if_success (guard_target =~ False)) | ((with_reducible refine And.intro ?_ ?_) <;> (conv => whnf)) | (with_reducible exact trivial) | ((with_reducible refine branch_d (fun hq => ?_) (fun hq => ?_)) <;> (try (exfalso; omega)) <;> (conv => whnf)) | ((with_reducible refine branch_e (fun hq => ?_) (fun hq => ?_)) <;> (try (exfalso; omega)) <;> (conv => whnf)) | ((with_reducible refine branch_n (fun hq => ?_) (fun hq => ?_)) <;> (try (exfalso; omega)) <;> (conv => whnf)) | ((with_reducible refine branch_i (fun hq => ?_) (fun hq => ?_)) <;> (try (exfalso; omega)) <;> (conv => whnf))))
    all_goals
      refine loop_i2 (fun (k : Nat) (τ' : Bool × Int × List Int) => i ≤ k ∧ k ≤ P.costs.length ∧ cndS τ' (loopF P (P.costs.length - k) ch k) ∧ (loopF P (P.costs.length - k) ch k).foldl (vstepS P) τ' = (visF P ch i).foldl (vstepS P) τ)
        (fun k τ' => mkSt [(1, .int .i64 (sumOf P.costs ch)), (4, .ptr 1004 0), (5, .ptr 1000 0), (6, .ptr 1002 0), (7, .ptr 1006 0), (10, .int .i64 k)] (sBxS P ch τ') false) (fun k _ => P.costs.length - k) i ((here P ch).foldl (vstepS P) τ) ⟨Nat.le_refl _, hi, hcnd1.2, by rw [hvis, List.foldl_append]⟩ ?_ ?_
      · first
          | (rw [here_met hq]; exact (le_mk (by repeat' (first | exact trivial | rfl | apply And.intro)) (by repeat' (first | exact trivial | rfl | apply And.intro)) rfl))
          | (rw [here_not hq]; exact (le_mk (by repeat' (first | exact trivial | rfl | apply And.intro)) (by repeat' (first | exact trivial | rfl | apply And.intro)) rfl))
      rintro k τ' ⟨hik, hkn, hcn, hfold⟩
      have haN : Asc 0 P.costs.length ch := ha.mono hi
      have hsum := costs_sum hv haN
      have hspl := fun h : k < P.costs.length => vis_snoc (P := P) (ch := ch) h
      (conv => whnf); (repeat' (first | (refine arith_i ⟨by omega, by omega⟩ ?_; conv => whnf) | (refine arith_u ⟨by omega, by omega⟩ ?_; conv => whnf) | (refine arith_8 ⟨by omega, by omega⟩ ?_; conv => whnf) | (refine need_i (by first | omega | (simp only [List.length_cons, List.length_nil]; omega) | (simp only [List.length_append, List.length_cons, List.length_nil, List.length_map, List.length_replicate, List.length_modify]; omega)) ?_; conv => whnf) | ((with_reducible refine branch_tt ?_); conv => whnf) | ((with_reducible refine branch_ff ?_); conv => whnf) | (with_reducible refine branch_not ?_) | (((refine idx_c (xs := P.costs) (by omega) fun y hy => ?_; have hyc := nth_eq hy; have hyb := costs_in hv k (by omega); have hkl : k < P.costs.length := (by omega); have hsp := hspl hkl; rw [hsp] at hcn hfold; have hcn2 := cndS_app (P := P) hcn; rw [List.foldl_append] at hfold; have hak : Asc 0 (k + 1) (ch ++ [(k : Int)]) := (ha.mono hik).snoc hkl; have LK : ((ch ++ [(k : Int)]).map encI).length = ch.length + 1 := (by simp))); conv => whnf) | ((simp only [snocI']); conv => whnf) | ((refine mcall_e [(1000, 1000), (1001, 1001)] [(1101, 1101)] (addOn_ok P ch k hv haN (by omega)) rfl rfl rfl ⟨⟨_, rfl, rfl, rfl⟩, ⟨_, rfl, rfl, rfl⟩, trivial⟩ rfl ?_); conv => whnf) | ((refine mcall_e [(1000, 1000), (1001, 1001), (1002, 1002), (1003, 1003), (1004, 1004), (1005, 1005), (1006, 1006), (1010, 1010)] [(1101, 1101), (1104, 1104)] (IH (P.costs.length - (k + 1)) (by omega) (ch ++ [(k : Int)]) (k + 1) (sumOf P.costs ch + y) τ' rfl (by omega) hak (by rw [sumOf_snoc, Int.toNat_natCast, hyc]) hcn2.1) rfl rfl rfl ⟨⟨_, rfl, rfl, rfl⟩, ⟨_, rfl, rfl, rfl⟩, ⟨_, rfl, rfl, rfl⟩, ⟨_, rfl, rfl, rfl⟩, ⟨_, rfl, rfl, rfl⟩, ⟨_, rfl, rfl, rfl⟩, ⟨_, rfl, rfl, rfl⟩, ⟨_, rfl, rfl, rfl⟩, trivial⟩ rfl ?_); conv => whnf) | ((refine mcall_e [(1000, 1000), (1001, 1001)] [(1101, 1101)] (addOff_ok P ch k hv (hak.mono hkl) (by omega)) rfl rfl rfl ⟨⟨_, rfl, rfl, rfl⟩, ⟨_, rfl, rfl, rfl⟩, trivial⟩ rfl ?_); conv => whnf) | ((refine slc_o ?_); conv => whnf) | (((refine sub_i ⟨by omega, by omega, by omega⟩ ?_; rw [less_I rfl])); conv => whnf) | ((with_reducible refine slc_e ?_); conv => whnf) | ((with_reducible refine callS_a ?_); conv => whnf) | ((with_reducible refine bld_a ?_); conv => whnf) | ((with_reducible refine own_e ?_); conv => whnf) | ((with_reducible refine mkmap_b ?_); conv => whnf) | (refine draw_i 0 plGL10c_3 (by decide +kernel) ?_; (conv => whnf); fail_if_success (guard_target =~ False)) | (refine draw_i 11 plGL10c_0 (by decide +kernel) ?_; (conv => whnf); fail_if_success (guard_target =~ False)) | (refine draw_i 11 plGL10c_1 (by decide +kernel) ?_; (conv => whnf); fail_if_success (guard_target =~ False)) | (refine draw_i 11 plGL10c_2 (by decide +kernel) ?_; (conv => whnf); fail_if_success (guard_target =~ False)) | ((with_reducible refine And.intro ?_ ?_) <;> (conv => whnf)) | (with_reducible exact trivial) | ((with_reducible refine branch_d (fun hq => ?_) (fun hq => ?_)) <;> (try (exfalso; omega)) <;> (conv => whnf)) | ((with_reducible refine branch_e (fun hq => ?_) (fun hq => ?_)) <;> (try (exfalso; omega)) <;> (conv => whnf)) | ((with_reducible refine branch_n (fun hq => ?_) (fun hq => ?_)) <;> (try (exfalso; omega)) <;> (conv => whnf)) | ((with_reducible refine branch_i (fun hq => ?_) (fun hq => ?_)) <;> (try (exfalso; omega)) <;> (conv => whnf))))
      all_goals first
        | (have hkk : k = P.costs.length := by omega
           rw [hkk, Nat.sub_self] at hfold
           have hfold' : τ' = (visF P ch i).foldl (vstepS P) τ := hfold
           rw [← hfold']
           exact retM_i (.tup []) [] (sBxS P ch τ') rfl (le_mk (by repeat' (first | exact trivial | rfl | apply And.intro)) (by repeat' (first | exact trivial | rfl | apply And.intro)) rfl) rfl ⟨rfl, rfl, rfl⟩)
        | exact ⟨k + 1, (visF P (ch ++ [(k : Int)]) (k + 1)).foldl (vstepS P) τ', ⟨by omega, by omega, hcn2.2, hfold⟩, (le_mk (by repeat' (first | exact trivial | rfl | apply And.intro)) (by repeat' (first | exact trivial | rfl | apply And.intro)) rfl), by omega⟩
set_option maxHeartbeats 4000000 in
theorem eachS_ok (P : Prog) (σ : Bool × Int × List Int) (hv : validB P = true) (hc : cndS σ (allF P)) : GoodM Try.prog TT false 33 [progV P, .fn 34 [.ptr 1010 0]] [(1010, vcS σ)] (fun r ov bx => r = .tup [] ∧ ov = [] ∧ bx = [(1010, vcS ((allF P).foldl (vstepS P) σ))]) := by
  have hr := (validB_parts hv).2.1
  have LR : (P.rows.map encRow).length = P.rows.length := List.length_map ..
  refine good_of_m (fun _ => false) mixed tabOk Try.func33 rfl rfl Try.ntmps33 Try.results33 rfl rfl ?_
  (conv => whnf)
  repeat (first | (refine arith_i ⟨by omega, by omega⟩ ?_; conv => whnf) | (refine need_i (by omega) ?_; conv => whnf))
  refine mcall_i [(1000, 2), (1001, 4), (1002, 5), (1003, 6), (1004, 7), (1005, 3), (1006, 8), (1010, 1010)] [(1101, 12), (1104, 1104)] _ (le_adoptBox 7 0 1104 3 1 rfl rfl) (searchS_ok P hv (P.costs.length - 0) [] 0 0 σ rfl (Nat.zero_le _) ⟨List.Pairwise.nil, by simp⟩ rfl hc) rfl rfl rfl ⟨⟨_, rfl, rfl, rfl⟩, ⟨_, rfl, by rw [← repl_sums P]; rfl, rfl⟩, ⟨_, rfl, rfl, rfl⟩, ⟨_, rfl, rfl, rfl⟩, ⟨_, rfl, rfl, rfl⟩, ⟨_, rfl, rfl, rfl⟩, ⟨_, rfl, rfl, rfl⟩, ⟨_, rfl, rfl, rfl⟩, trivial⟩ ?_
  rintro r ov bx' ⟨rfl, rfl, rfl⟩
  refine ⟨rfl, ?_⟩
  conv => whnf
  exact retM_i (.tup []) [] [(1010, vcS ((allF P).foldl (vstepS P) σ))] rfl (le_mk (by repeat' (first | exact trivial | rfl | apply And.intro)) (by repeat' (first | exact trivial | rfl | apply And.intro)) rfl) rfl ⟨rfl, rfl, rfl⟩
end Go.Proofs.Ytiionjpinainlaa
end
