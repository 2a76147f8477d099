/- Several texts in one: GL09c, GL09d, Pl10, GL10a, GL09rep, GL09e, GL09f, GL09g, GL09h. -/
import Derived.Test.YtengafkfgcdpeaaV2
import Derived.Test.YtengafkfgcdpeaaV1
import Derived.Test.YtengafkfgcdpeaaMC
/- Layer 9 by the interpreter: the bound of a node. -/
section
namespace Go.Proofs.Ytengafkfgcdpeaa
set_option linter.unusedVariables false
set_option linter.unusedSimpArgs false
set_option linter.unnecessarySimpa false
set_option linter.unusedSectionVars false
set_option maxRecDepth 10000
open Go.RowKit
theorem mul_in {a b : Int} {A B : Nat} (ha : -(A : Int) ≤ a ∧ a ≤ A) (hb : -(B : Int) ≤ b ∧ b ≤ B) : -((A * B : Nat) : Int) ≤ a * b ∧ a * b ≤ ((A * B : Nat) : Int) := by
  have h1 : a.natAbs ≤ A := by omega
  have h2 : b.natAbs ≤ B := by omega
  have h3 := Nat.mul_le_mul h1 h2
  rw [← Int.natAbs_mul] at h3
  omega
def rowOf (P : Prog) (n : Nd) : Row := if n.row < 0 then ⟨List.replicate P.costs.length 0, 0, 0⟩ else rowAt P.rows n.row.toNat
def contr (s v : Int) : Int := if s = 1 then v else if s = -1 then min v 0 else 0
def nodeV (P : Prog) (n : Nd) (i : Nat) : Int := n.den * nth P.costs i - n.num * nth (rowOf P n).coefs i
def startF (P : Prog) (n : Nd) : Int := if n.num < 0 then n.num * (rowOf P n).most else n.num * (rowOf P n).least
def totF (P : Prog) (st : List Int) (n : Nd) (k : Nat) : Int := startF P n + sumN (fun i => contr (nth st i) (nodeV P n i)) k
def boundF (P : Prog) (st : List Int) (n : Nd) : Int := ceilF (totF P st n P.costs.length) n.den
/-- What is known of the row of a bound. -/
structure RowIn (c : Nat) (r : Row) : Prop where
  len : r.coefs.length = c
  co : ∀ i, -10000 ≤ nth r.coefs i ∧ nth r.coefs i ≤ 10000
  le : -1000000 ≤ r.least ∧ r.least ≤ 1000000
  mo : -1000000 ≤ r.most ∧ r.most ≤ 1000000
theorem nth_out {xs : List Int} {i : Nat} (h : xs.length ≤ i) : nth xs i = 0 := by simp [nth, List.getD_eq_getElem?_getD, List.getElem?_eq_none h]
theorem rowIn_of {P : Prog} (hv : validB P = true) {n : Nd} (hb : bndB P.rows.length n = true) : RowIn P.costs.length (rowOf P n) := by
  unfold rowOf
  split
  · refine ⟨by simp, fun i => ?_, by show -1000000 ≤ (0 : Int) ∧ (0 : Int) ≤ 1000000; omega, by show -1000000 ≤ (0 : Int) ∧ (0 : Int) ≤ 1000000; omega⟩
    have : nth (List.replicate P.costs.length 0) i = 0 := by
      simp only [nth, List.getD_eq_getElem?_getD, List.getElem?_replicate]
      split <;> rfl
    simp only [this]
    decide
  · next h0 =>
    have hr : n.row < P.rows.length := by
      simp only [bndB] at hb
      by_cases h1 : n.row = -1
      · omega
      · rw [if_neg h1] at hb
        simp at hb
        omega
    have hlt : n.row.toNat < P.rows.length := by omega
    have hm : rowAt P.rows n.row.toNat ∈ P.rows := by
      rw [rowAt_eq (List.getElem?_eq_getElem hlt)]
      exact List.getElem_mem hlt
    obtain ⟨a, b, c, d⟩ := valid_rows hv hm
    refine ⟨a, fun i => ?_, c, d⟩
    rcases Nat.lt_or_ge i (rowAt P.rows n.row.toNat).coefs.length with h | h
    · exact b i h
    · rw [nth_out h]; decide
theorem node_in {n : Nd} {c : Nat} (hb : bndB c n = true) : (-10000 ≤ n.num ∧ n.num ≤ 10000) ∧ 1 ≤ n.den ∧ n.den ≤ 10000 := by
  simp only [bndB] at hb
  by_cases h1 : n.row = -1
  · rw [if_pos h1] at hb
    simp at hb
    omega
  · rw [if_neg h1] at hb
    simp at hb
    omega
theorem cost_in {P : Prog} (hv : validB P = true) (i : Nat) : 0 ≤ nth P.costs i ∧ nth P.costs i ≤ 10000 := by
  rcases Nat.lt_or_ge i P.costs.length with h | h
  · have h1 := (validB_parts hv).2.2.1
    have h2 := List.all_eq_true.1 h1 _ (List.getElem_mem h)
    have h3 := costB_iff.1 h2
    rw [nth_eq (List.getElem?_eq_getElem h)]
    exact h3
  · rw [nth_out h]; decide
theorem nodeV_in {P : Prog} (hv : validB P = true) {n : Nd} (hb : bndB P.rows.length n = true) (i : Nat) : -200000000 ≤ nodeV P n i ∧ nodeV P n i ≤ 200000000 := by
  obtain ⟨h1, h2⟩ := node_in hb
  have h3 := (rowIn_of hv hb).co i
  have h4 := cost_in hv i
  have m1 := mul_in (a := n.den) (b := nth P.costs i) (A := 10000) (B := 10000) (by omega) (by omega)
  have m2 := mul_in (a := n.num) (b := nth (rowOf P n).coefs i) (A := 10000) (B := 10000) (by omega) (by omega)
  unfold nodeV
  omega
theorem start_in {P : Prog} (hv : validB P = true) {n : Nd} (hb : bndB P.rows.length n = true) : -10000000000 ≤ startF P n ∧ startF P n ≤ 10000000000 := by
  obtain ⟨h1, h2⟩ := node_in hb
  have hr := rowIn_of hv hb
  have h3 := hr.le
  have h4 := hr.mo
  have m1 := mul_in (a := n.num) (b := (rowOf P n).most) (A := 10000) (B := 1000000) (by omega) (by omega)
  have m2 := mul_in (a := n.num) (b := (rowOf P n).least) (A := 10000) (B := 1000000) (by omega) (by omega)
  unfold startF
  split <;> omega
theorem contr_in {s v : Int} (h : -200000000 ≤ v ∧ v ≤ 200000000) : -200000000 ≤ contr s v ∧ contr s v ≤ 200000000 := by
  unfold contr
  split
  · exact h
  · split
    · omega
    · omega
theorem tot_in {P : Prog} (hv : validB P = true) {n : Nd} (hb : bndB P.rows.length n = true) (st : List Int) : ∀ k : Nat, k ≤ 12 → -(10000000000 + 200000000 * (k : Int)) ≤ totF P st n k ∧ totF P st n k ≤ 10000000000 + 200000000 * (k : Int)
  | 0, _ => by
    have := start_in hv hb
    simp only [totF, sumN]
    omega
  | k + 1, hk => by
    have h1 := tot_in hv hb st k (by omega)
    have h2 := contr_in (s := nth st k) (nodeV_in hv hb k)
    simp only [totF, sumN] at h1 ⊢
    omega
theorem min_if {x : Int} : (if 0 < x then 0 else x) = min x 0 := by omega
theorem tdiv_in {a b : Int} (hb : 1 ≤ b) : (a.tdiv b).natAbs ≤ a.natAbs := by
  rw [Int.natAbs_tdiv]; exact Nat.div_le_self _ _
theorem tot_next {P : Prog} {st : List Int} {n : Nd} {k : Nat} : totF P st n (k + 1) = totF P st n k + contr (nth st k) (nodeV P n k) := by
  simp only [totF, sumN]; omega
theorem boundOf_ok (P : Prog) (st : List Int) (n : Nd) (hv : validB P = true) (hs : st.length = P.costs.length) (hb : bndB P.rows.length n = true) : Good Try.prog TT false 88 [progV P, ints st, .agg (encN n)] (· = .int .i64 (boundF P st n)) := by
  have L1 : (P.costs.map encI).length = P.costs.length := List.length_map ..
  have L2 : (P.rows.map encRow).length = P.rows.length := List.length_map ..
  have L3 : (st.map encI).length = st.length := List.length_map ..
  have h12 := (validB_parts hv).1
  have hr := rowIn_of hv hb
  obtain ⟨hn, hd⟩ := node_in hb
  refine good_of_c (fun i => Nat.beq i 4) mixed tabOk Try.func88 rfl rfl Try.ntmps88 Try.results88 rfl rfl ?_
  (conv => whnf); (repeat (first | (refine arith_i ⟨by omega, by omega⟩ ?_; conv => whnf) | (refine need_i (by first | omega | (simp only [List.length_append, List.length_cons, List.length_nil]; omega)) ?_; conv => whnf) | ((with_reducible refine branch_tt ?_); conv => whnf) | ((with_reducible refine branch_ff ?_); conv => whnf) | (with_reducible refine branch_not ?_) | ((with_reducible refine slc_e ?_); conv => whnf) | ((with_reducible refine callS_a ?_); conv => whnf) | ((with_reducible refine bld_a ?_); conv => whnf) | ((with_reducible refine own_e ?_); conv => whnf) | ((with_reducible refine mkmap_b ?_); conv => whnf)))
  refine branch_d (fun h0 => ?_) (fun h0 => ?_)
  · have hlt : n.row < P.rows.length := by
      simp only [bndB] at hb
      by_cases h1 : n.row = -1
      · omega
      · rw [if_neg h1] at hb
        simp at hb
        omega
    (conv => whnf); (repeat (first | (refine arith_i ⟨by omega, by omega⟩ ?_; conv => whnf) | (refine need_i (by first | omega | (simp only [List.length_append, List.length_cons, List.length_nil]; omega)) ?_; conv => whnf) | ((with_reducible refine branch_tt ?_); conv => whnf) | ((with_reducible refine branch_ff ?_); conv => whnf) | (with_reducible refine branch_not ?_) | ((with_reducible refine slc_e ?_); conv => whnf) | ((with_reducible refine callS_a ?_); conv => whnf) | ((with_reducible refine bld_a ?_); conv => whnf) | ((with_reducible refine own_e ?_); conv => whnf) | ((with_reducible refine mkmap_b ?_); conv => whnf)))
    refine idx_m (by omega) (by omega) fun r hrr => ?_
    have er : rowOf P n = r := by rw [rowOf, if_neg (by omega), rowAt_eq hrr]
    (conv => whnf); (repeat (first | (refine arith_i ⟨by omega, by omega⟩ ?_; conv => whnf) | (refine need_i (by first | omega | (simp only [List.length_append, List.length_cons, List.length_nil]; omega)) ?_; conv => whnf) | ((with_reducible refine branch_tt ?_); conv => whnf) | ((with_reducible refine branch_ff ?_); conv => whnf) | (with_reducible refine branch_not ?_) | ((with_reducible refine slc_e ?_); conv => whnf) | ((with_reducible refine callS_a ?_); conv => whnf) | ((with_reducible refine bld_a ?_); conv => whnf) | ((with_reducible refine own_e ?_); conv => whnf) | ((with_reducible refine mkmap_b ?_); conv => whnf)))
    refine rest_i (mkSt [(1, ints st), (3, .ptr 3 0), (5, .ptr 5 0), (7, .ptr 7 0)] [(3, [ints P.costs, rowsV P.rows]), (5, encN n), (7, encRow (rowOf P n))] false) (le_mk ⟨rfl, rfl, rfl, rfl, trivial⟩ ⟨rfl, rfl, by rw [er]; rfl, trivial⟩ rfl) ?_
    (conv => whnf); (repeat (first | (refine arith_i ⟨by omega, by omega⟩ ?_; conv => whnf) | (refine need_i (by first | omega | (simp only [List.length_append, List.length_cons, List.length_nil]; omega)) ?_; conv => whnf) | ((with_reducible refine branch_tt ?_); conv => whnf) | ((with_reducible refine branch_ff ?_); conv => whnf) | (with_reducible refine branch_not ?_) | ((with_reducible refine slc_e ?_); conv => whnf) | ((with_reducible refine callS_a ?_); conv => whnf) | ((with_reducible refine bld_a ?_); conv => whnf) | ((with_reducible refine own_e ?_); conv => whnf) | ((with_reducible refine mkmap_b ?_); conv => whnf)))
    have m1 := mul_in (a := n.num) (b := (rowOf P n).least) (A := 10000) (B := 1000000) (by omega) (by have := hr.le; omega)
    have m2 := mul_in (a := n.num) (b := (rowOf P n).most) (A := 10000) (B := 1000000) (by omega) (by have := hr.mo; omega)
    refine arith_i (by omega) ?_
    (conv => whnf); (repeat (first | (refine arith_i ⟨by omega, by omega⟩ ?_; conv => whnf) | (refine need_i (by first | omega | (simp only [List.length_append, List.length_cons, List.length_nil]; omega)) ?_; conv => whnf) | ((with_reducible refine branch_tt ?_); conv => whnf) | ((with_reducible refine branch_ff ?_); conv => whnf) | (with_reducible refine branch_not ?_) | ((with_reducible refine slc_e ?_); conv => whnf) | ((with_reducible refine callS_a ?_); conv => whnf) | ((with_reducible refine bld_a ?_); conv => whnf) | ((with_reducible refine own_e ?_); conv => whnf) | ((with_reducible refine mkmap_b ?_); conv => whnf)))
    have fin : ∀ t : Int, t = startF P n → True := fun _ _ => trivial
    refine branch_d (fun hneg => ?_) (fun hneg => ?_)
    · (conv => whnf); (repeat (first | (refine arith_i ⟨by omega, by omega⟩ ?_; conv => whnf) | (refine need_i (by first | omega | (simp only [List.length_append, List.length_cons, List.length_nil]; omega)) ?_; conv => whnf) | ((with_reducible refine branch_tt ?_); conv => whnf) | ((with_reducible refine branch_ff ?_); conv => whnf) | (with_reducible refine branch_not ?_) | ((with_reducible refine slc_e ?_); conv => whnf) | ((with_reducible refine callS_a ?_); conv => whnf) | ((with_reducible refine bld_a ?_); conv => whnf) | ((with_reducible refine own_e ?_); conv => whnf) | ((with_reducible refine mkmap_b ?_); conv => whnf)))
      refine loop_i (fun k : Nat => k ≤ P.costs.length) (fun k => mkSt [(1, ints st), (3, .ptr 3 0), (5, .ptr 5 0), (7, .ptr 7 0), (8, .int .i64 (totF P st n k)), (40, ints P.costs), (41, .int .i64 (P.costs.map encI).length), (42, .int .i64 k)] [(3, [ints P.costs, rowsV P.rows]), (5, encN n), (7, encRow (rowOf P n))] false) (fun k => P.costs.length - k) 0 (Nat.zero_le _) (le_mk ⟨rfl, rfl, rfl, rfl, int_eq (by simp [totF, sumN, startF, hneg]), rfl, rfl, rfl, trivial⟩ ⟨rfl, rfl, rfl, trivial⟩ rfl) ?_
      intro k hk
      have ht := tot_in hv hb st k (by omega)
      have hnv := nodeV_in hv hb k
      have hco := hr.co k
      have hcs := cost_in hv k
      have Lc : ((rowOf P n).coefs.map encI).length = (rowOf P n).coefs.length := List.length_map ..
      have Lc2 := hr.len
      (conv => whnf); (repeat (first | (refine arith_i ⟨by omega, by omega⟩ ?_; conv => whnf) | (refine need_i (by first | omega | (simp only [List.length_append, List.length_cons, List.length_nil]; omega)) ?_; conv => whnf) | ((with_reducible refine branch_tt ?_); conv => whnf) | ((with_reducible refine branch_ff ?_); conv => whnf) | (with_reducible refine branch_not ?_) | ((with_reducible refine slc_e ?_); conv => whnf) | ((with_reducible refine callS_a ?_); conv => whnf) | ((with_reducible refine bld_a ?_); conv => whnf) | ((with_reducible refine own_e ?_); conv => whnf) | ((with_reducible refine mkmap_b ?_); conv => whnf)))
      refine branch_d (fun h => ?_) (fun h => ?_)
      · (conv => whnf); (repeat (first | (refine arith_i ⟨by omega, by omega⟩ ?_; conv => whnf) | (refine need_i (by first | omega | (simp only [List.length_append, List.length_cons, List.length_nil]; omega)) ?_; conv => whnf) | ((with_reducible refine branch_tt ?_); conv => whnf) | ((with_reducible refine branch_ff ?_); conv => whnf) | (with_reducible refine branch_not ?_) | ((with_reducible refine slc_e ?_); conv => whnf) | ((with_reducible refine callS_a ?_); conv => whnf) | ((with_reducible refine bld_a ?_); conv => whnf) | ((with_reducible refine own_e ?_); conv => whnf) | ((with_reducible refine mkmap_b ?_); conv => whnf)))
        refine idx_m (by omega) (by omega) fun c hc => ?_
        rw [Int.toNat_natCast] at hc
        have ec := nth_eq hc
        have q1 := mul_in (a := n.den) (b := c) (A := 10000) (B := 10000) (by omega) (by omega)
        (conv => whnf); (repeat (first | (refine arith_i ⟨by omega, by omega⟩ ?_; conv => whnf) | (refine need_i (by first | omega | (simp only [List.length_append, List.length_cons, List.length_nil]; omega)) ?_; conv => whnf) | ((with_reducible refine branch_tt ?_); conv => whnf) | ((with_reducible refine branch_ff ?_); conv => whnf) | (with_reducible refine branch_not ?_) | ((with_reducible refine slc_e ?_); conv => whnf) | ((with_reducible refine callS_a ?_); conv => whnf) | ((with_reducible refine bld_a ?_); conv => whnf) | ((with_reducible refine own_e ?_); conv => whnf) | ((with_reducible refine mkmap_b ?_); conv => whnf)))
        refine draw_i 14 (.take 0 (.take 1 (.take 2 (.take 3 (.take 4 (.take 5 (.take 6 (.take 7 (.take 8 (.take 9 (.take 10 (.take 11 (.take 12 (.take 13 .done)))))))))))))) (by decide +kernel) ?_
        (conv => whnf); (repeat (first | (refine arith_i ⟨by omega, by omega⟩ ?_; conv => whnf) | (refine need_i (by first | omega | (simp only [List.length_append, List.length_cons, List.length_nil]; omega)) ?_; conv => whnf) | ((with_reducible refine branch_tt ?_); conv => whnf) | ((with_reducible refine branch_ff ?_); conv => whnf) | (with_reducible refine branch_not ?_) | ((with_reducible refine slc_e ?_); conv => whnf) | ((with_reducible refine callS_a ?_); conv => whnf) | ((with_reducible refine bld_a ?_); conv => whnf) | ((with_reducible refine own_e ?_); conv => whnf) | ((with_reducible refine mkmap_b ?_); conv => whnf)))
        refine idx_m (by omega) (by omega) fun co hco2 => ?_
        rw [Int.toNat_natCast] at hco2
        have eco := nth_eq hco2
        have q2 := mul_in (a := n.num) (b := co) (A := 10000) (B := 10000) (by omega) (by omega)
        have env : nodeV P n k = n.den * c - n.num * co := by rw [nodeV, ec, eco]
        (conv => whnf); (repeat (first | (refine arith_i ⟨by omega, by omega⟩ ?_; conv => whnf) | (refine need_i (by first | omega | (simp only [List.length_append, List.length_cons, List.length_nil]; omega)) ?_; conv => whnf) | ((with_reducible refine branch_tt ?_); conv => whnf) | ((with_reducible refine branch_ff ?_); conv => whnf) | (with_reducible refine branch_not ?_) | ((with_reducible refine slc_e ?_); conv => whnf) | ((with_reducible refine callS_a ?_); conv => whnf) | ((with_reducible refine bld_a ?_); conv => whnf) | ((with_reducible refine own_e ?_); conv => whnf) | ((with_reducible refine mkmap_b ?_); conv => whnf)))
        refine idx_m (by omega) (by omega) fun sx hsx => ?_
        rw [Int.toNat_natCast] at hsx
        have esx := nth_eq hsx
        have nx := tot_next (P := P) (st := st) (n := n) (k := k)
        rw [esx, env] at nx
        (conv => whnf); (repeat (first | (refine arith_i ⟨by omega, by omega⟩ ?_; conv => whnf) | (refine need_i (by first | omega | (simp only [List.length_append, List.length_cons, List.length_nil]; omega)) ?_; conv => whnf) | ((with_reducible refine branch_tt ?_); conv => whnf) | ((with_reducible refine branch_ff ?_); conv => whnf) | (with_reducible refine branch_not ?_) | ((with_reducible refine slc_e ?_); conv => whnf) | ((with_reducible refine callS_a ?_); conv => whnf) | ((with_reducible refine bld_a ?_); conv => whnf) | ((with_reducible refine own_e ?_); conv => whnf) | ((with_reducible refine mkmap_b ?_); conv => whnf)))
        refine branch_e (fun e1 => ?_) (fun e1 => ?_)
        · rw [contr, if_pos e1] at nx
          (conv => whnf); (repeat (first | (refine arith_i ⟨by omega, by omega⟩ ?_; conv => whnf) | (refine need_i (by first | omega | (simp only [List.length_append, List.length_cons, List.length_nil]; omega)) ?_; conv => whnf) | ((with_reducible refine branch_tt ?_); conv => whnf) | ((with_reducible refine branch_ff ?_); conv => whnf) | (with_reducible refine branch_not ?_) | ((with_reducible refine slc_e ?_); conv => whnf) | ((with_reducible refine callS_a ?_); conv => whnf) | ((with_reducible refine bld_a ?_); conv => whnf) | ((with_reducible refine own_e ?_); conv => whnf) | ((with_reducible refine mkmap_b ?_); conv => whnf)))
          exact ⟨k + 1, by omega, le_mk ⟨rfl, rfl, rfl, rfl, int_eq (by rw [nx]), rfl, rfl, rfl, trivial⟩ ⟨rfl, rfl, rfl, trivial⟩ rfl, by omega⟩
        · rw [contr, if_neg e1] at nx
          (conv => whnf); (repeat (first | (refine arith_i ⟨by omega, by omega⟩ ?_; conv => whnf) | (refine need_i (by first | omega | (simp only [List.length_append, List.length_cons, List.length_nil]; omega)) ?_; conv => whnf) | ((with_reducible refine branch_tt ?_); conv => whnf) | ((with_reducible refine branch_ff ?_); conv => whnf) | (with_reducible refine branch_not ?_) | ((with_reducible refine slc_e ?_); conv => whnf) | ((with_reducible refine callS_a ?_); conv => whnf) | ((with_reducible refine bld_a ?_); conv => whnf) | ((with_reducible refine own_e ?_); conv => whnf) | ((with_reducible refine mkmap_b ?_); conv => whnf)))
          refine branch_e (fun e2 => ?_) (fun e2 => ?_)
          · rw [if_pos e2] at nx
            (conv => whnf); (repeat (first | (refine arith_i ⟨by omega, by omega⟩ ?_; conv => whnf) | (refine need_i (by first | omega | (simp only [List.length_append, List.length_cons, List.length_nil]; omega)) ?_; conv => whnf) | ((with_reducible refine branch_tt ?_); conv => whnf) | ((with_reducible refine branch_ff ?_); conv => whnf) | (with_reducible refine branch_not ?_) | ((with_reducible refine slc_e ?_); conv => whnf) | ((with_reducible refine callS_a ?_); conv => whnf) | ((with_reducible refine bld_a ?_); conv => whnf) | ((with_reducible refine own_e ?_); conv => whnf) | ((with_reducible refine mkmap_b ?_); conv => whnf)))
            exact ⟨k + 1, by omega, le_mk ⟨rfl, rfl, rfl, rfl, int_eq (by rw [nx, min_if]), rfl, rfl, rfl, trivial⟩ ⟨rfl, rfl, rfl, trivial⟩ rfl, by omega⟩
          · rw [if_neg e2, Int.add_zero] at nx
            (conv => whnf); (repeat (first | (refine arith_i ⟨by omega, by omega⟩ ?_; conv => whnf) | (refine need_i (by first | omega | (simp only [List.length_append, List.length_cons, List.length_nil]; omega)) ?_; conv => whnf) | ((with_reducible refine branch_tt ?_); conv => whnf) | ((with_reducible refine branch_ff ?_); conv => whnf) | (with_reducible refine branch_not ?_) | ((with_reducible refine slc_e ?_); conv => whnf) | ((with_reducible refine callS_a ?_); conv => whnf) | ((with_reducible refine bld_a ?_); conv => whnf) | ((with_reducible refine own_e ?_); conv => whnf) | ((with_reducible refine mkmap_b ?_); conv => whnf)))
            exact ⟨k + 1, by omega, le_mk ⟨rfl, rfl, rfl, rfl, int_eq (by rw [nx]), rfl, rfl, rfl, trivial⟩ ⟨rfl, rfl, rfl, trivial⟩ rfl, by omega⟩
      · have hkn : k = P.costs.length := by omega
        subst hkn
        (conv => whnf); (repeat (first | (refine arith_i ⟨by omega, by omega⟩ ?_; conv => whnf) | (refine need_i (by first | omega | (simp only [List.length_append, List.length_cons, List.length_nil]; omega)) ?_; conv => whnf) | ((with_reducible refine branch_tt ?_); conv => whnf) | ((with_reducible refine branch_ff ?_); conv => whnf) | (with_reducible refine branch_not ?_) | ((with_reducible refine slc_e ?_); conv => whnf) | ((with_reducible refine callS_a ?_); conv => whnf) | ((with_reducible refine bld_a ?_); conv => whnf) | ((with_reducible refine own_e ?_); conv => whnf) | ((with_reducible refine mkmap_b ?_); conv => whnf)))
        refine call_e (ceil_ok (totF P st n P.costs.length) n.den (by omega) hd (by have := tdiv_in (a := totF P st n P.costs.length) hd.1; omega)) ?_
        (conv => whnf); (repeat (first | (refine arith_i ⟨by omega, by omega⟩ ?_; conv => whnf) | (refine need_i (by first | omega | (simp only [List.length_append, List.length_cons, List.length_nil]; omega)) ?_; conv => whnf) | ((with_reducible refine branch_tt ?_); conv => whnf) | ((with_reducible refine branch_ff ?_); conv => whnf) | (with_reducible refine branch_not ?_) | ((with_reducible refine slc_e ?_); conv => whnf) | ((with_reducible refine callS_a ?_); conv => whnf) | ((with_reducible refine bld_a ?_); conv => whnf) | ((with_reducible refine own_e ?_); conv => whnf) | ((with_reducible refine mkmap_b ?_); conv => whnf)))
        exact ret_p rfl rfl
    · (conv => whnf); (repeat (first | (refine arith_i ⟨by omega, by omega⟩ ?_; conv => whnf) | (refine need_i (by first | omega | (simp only [List.length_append, List.length_cons, List.length_nil]; omega)) ?_; conv => whnf) | ((with_reducible refine branch_tt ?_); conv => whnf) | ((with_reducible refine branch_ff ?_); conv => whnf) | (with_reducible refine branch_not ?_) | ((with_reducible refine slc_e ?_); conv => whnf) | ((with_reducible refine callS_a ?_); conv => whnf) | ((with_reducible refine bld_a ?_); conv => whnf) | ((with_reducible refine own_e ?_); conv => whnf) | ((with_reducible refine mkmap_b ?_); conv => whnf)))
      refine loop_i (fun k : Nat => k ≤ P.costs.length) (fun k => mkSt [(1, ints st), (3, .ptr 3 0), (5, .ptr 5 0), (7, .ptr 7 0), (8, .int .i64 (totF P st n k)), (40, ints P.costs), (41, .int .i64 (P.costs.map encI).length), (42, .int .i64 k)] [(3, [ints P.costs, rowsV P.rows]), (5, encN n), (7, encRow (rowOf P n))] false) (fun k => P.costs.length - k) 0 (Nat.zero_le _) (le_mk ⟨rfl, rfl, rfl, rfl, int_eq (by simp [totF, sumN, startF, hneg]), rfl, rfl, rfl, trivial⟩ ⟨rfl, rfl, rfl, trivial⟩ rfl) ?_
      intro k hk
      have ht := tot_in hv hb st k (by omega)
      have hnv := nodeV_in hv hb k
      have hco := hr.co k
      have hcs := cost_in hv k
      have Lc : ((rowOf P n).coefs.map encI).length = (rowOf P n).coefs.length := List.length_map ..
      have Lc2 := hr.len
      (conv => whnf); (repeat (first | (refine arith_i ⟨by omega, by omega⟩ ?_; conv => whnf) | (refine need_i (by first | omega | (simp only [List.length_append, List.length_cons, List.length_nil]; omega)) ?_; conv => whnf) | ((with_reducible refine branch_tt ?_); conv => whnf) | ((with_reducible refine branch_ff ?_); conv => whnf) | (with_reducible refine branch_not ?_) | ((with_reducible refine slc_e ?_); conv => whnf) | ((with_reducible refine callS_a ?_); conv => whnf) | ((with_reducible refine bld_a ?_); conv => whnf) | ((with_reducible refine own_e ?_); conv => whnf) | ((with_reducible refine mkmap_b ?_); conv => whnf)))
      refine branch_d (fun h => ?_) (fun h => ?_)
      · (conv => whnf); (repeat (first | (refine arith_i ⟨by omega, by omega⟩ ?_; conv => whnf) | (refine need_i (by first | omega | (simp only [List.length_append, List.length_cons, List.length_nil]; omega)) ?_; conv => whnf) | ((with_reducible refine branch_tt ?_); conv => whnf) | ((with_reducible refine branch_ff ?_); conv => whnf) | (with_reducible refine branch_not ?_) | ((with_reducible refine slc_e ?_); conv => whnf) | ((with_reducible refine callS_a ?_); conv => whnf) | ((with_reducible refine bld_a ?_); conv => whnf) | ((with_reducible refine own_e ?_); conv => whnf) | ((with_reducible refine mkmap_b ?_); conv => whnf)))
        refine idx_m (by omega) (by omega) fun c hc => ?_
        rw [Int.toNat_natCast] at hc
        have ec := nth_eq hc
        have q1 := mul_in (a := n.den) (b := c) (A := 10000) (B := 10000) (by omega) (by omega)
        (conv => whnf); (repeat (first | (refine arith_i ⟨by omega, by omega⟩ ?_; conv => whnf) | (refine need_i (by first | omega | (simp only [List.length_append, List.length_cons, List.length_nil]; omega)) ?_; conv => whnf) | ((with_reducible refine branch_tt ?_); conv => whnf) | ((with_reducible refine branch_ff ?_); conv => whnf) | (with_reducible refine branch_not ?_) | ((with_reducible refine slc_e ?_); conv => whnf) | ((with_reducible refine callS_a ?_); conv => whnf) | ((with_reducible refine bld_a ?_); conv => whnf) | ((with_reducible refine own_e ?_); conv => whnf) | ((with_reducible refine mkmap_b ?_); conv => whnf)))
        refine draw_i 14 (.take 0 (.take 1 (.take 2 (.take 3 (.take 4 (.take 5 (.take 6 (.take 7 (.take 8 (.take 9 (.take 10 (.take 11 (.take 12 (.take 13 .done)))))))))))))) (by decide +kernel) ?_
        (conv => whnf); (repeat (first | (refine arith_i ⟨by omega, by omega⟩ ?_; conv => whnf) | (refine need_i (by first | omega | (simp only [List.length_append, List.length_cons, List.length_nil]; omega)) ?_; conv => whnf) | ((with_reducible refine branch_tt ?_); conv => whnf) | ((with_reducible refine branch_ff ?_); conv => whnf) | (with_reducible refine branch_not ?_) | ((with_reducible refine slc_e ?_); conv => whnf) | ((with_reducible refine callS_a ?_); conv => whnf) | ((with_reducible refine bld_a ?_); conv => whnf) | ((with_reducible refine own_e ?_); conv => whnf) | ((with_reducible refine mkmap_b ?_); conv => whnf)))
        refine idx_m (by omega) (by omega) fun co hco2 => ?_
        rw [Int.toNat_natCast] at hco2
        have eco := nth_eq hco2
        have q2 := mul_in (a := n.num) (b := co) (A := 10000) (B := 10000) (by omega) (by omega)
        have env : nodeV P n k = n.den * c - n.num * co := by rw [nodeV, ec, eco]
        (conv => whnf); (repeat (first | (refine arith_i ⟨by omega, by omega⟩ ?_; conv => whnf) | (refine need_i (by first | omega | (simp only [List.length_append, List.length_cons, List.length_nil]; omega)) ?_; conv => whnf) | ((with_reducible refine branch_tt ?_); conv => whnf) | ((with_reducible refine branch_ff ?_); conv => whnf) | (with_reducible refine branch_not ?_) | ((with_reducible refine slc_e ?_); conv => whnf) | ((with_reducible refine callS_a ?_); conv => whnf) | ((with_reducible refine bld_a ?_); conv => whnf) | ((with_reducible refine own_e ?_); conv => whnf) | ((with_reducible refine mkmap_b ?_); conv => whnf)))
        refine idx_m (by omega) (by omega) fun sx hsx => ?_
        rw [Int.toNat_natCast] at hsx
        have esx := nth_eq hsx
        have nx := tot_next (P := P) (st := st) (n := n) (k := k)
        rw [esx, env] at nx
        (conv => whnf); (repeat (first | (refine arith_i ⟨by omega, by omega⟩ ?_; conv => whnf) | (refine need_i (by first | omega | (simp only [List.length_append, List.length_cons, List.length_nil]; omega)) ?_; conv => whnf) | ((with_reducible refine branch_tt ?_); conv => whnf) | ((with_reducible refine branch_ff ?_); conv => whnf) | (with_reducible refine branch_not ?_) | ((with_reducible refine slc_e ?_); conv => whnf) | ((with_reducible refine callS_a ?_); conv => whnf) | ((with_reducible refine bld_a ?_); conv => whnf) | ((with_reducible refine own_e ?_); conv => whnf) | ((with_reducible refine mkmap_b ?_); conv => whnf)))
        refine branch_e (fun e1 => ?_) (fun e1 => ?_)
        · rw [contr, if_pos e1] at nx
          (conv => whnf); (repeat (first | (refine arith_i ⟨by omega, by omega⟩ ?_; conv => whnf) | (refine need_i (by first | omega | (simp only [List.length_append, List.length_cons, List.length_nil]; omega)) ?_; conv => whnf) | ((with_reducible refine branch_tt ?_); conv => whnf) | ((with_reducible refine branch_ff ?_); conv => whnf) | (with_reducible refine branch_not ?_) | ((with_reducible refine slc_e ?_); conv => whnf) | ((with_reducible refine callS_a ?_); conv => whnf) | ((with_reducible refine bld_a ?_); conv => whnf) | ((with_reducible refine own_e ?_); conv => whnf) | ((with_reducible refine mkmap_b ?_); conv => whnf)))
          exact ⟨k + 1, by omega, le_mk ⟨rfl, rfl, rfl, rfl, int_eq (by rw [nx]), rfl, rfl, rfl, trivial⟩ ⟨rfl, rfl, rfl, trivial⟩ rfl, by omega⟩
        · rw [contr, if_neg e1] at nx
          (conv => whnf); (repeat (first | (refine arith_i ⟨by omega, by omega⟩ ?_; conv => whnf) | (refine need_i (by first | omega | (simp only [List.length_append, List.length_cons, List.length_nil]; omega)) ?_; conv => whnf) | ((with_reducible refine branch_tt ?_); conv => whnf) | ((with_reducible refine branch_ff ?_); conv => whnf) | (with_reducible refine branch_not ?_) | ((with_reducible refine slc_e ?_); conv => whnf) | ((with_reducible refine callS_a ?_); conv => whnf) | ((with_reducible refine bld_a ?_); conv => whnf) | ((with_reducible refine own_e ?_); conv => whnf) | ((with_reducible refine mkmap_b ?_); conv => whnf)))
          refine branch_e (fun e2 => ?_) (fun e2 => ?_)
          · rw [if_pos e2] at nx
            (conv => whnf); (repeat (first | (refine arith_i ⟨by omega, by omega⟩ ?_; conv => whnf) | (refine need_i (by first | omega | (simp only [List.length_append, List.length_cons, List.length_nil]; omega)) ?_; conv => whnf) | ((with_reducible refine branch_tt ?_); conv => whnf) | ((with_reducible refine branch_ff ?_); conv => whnf) | (with_reducible refine branch_not ?_) | ((with_reducible refine slc_e ?_); conv => whnf) | ((with_reducible refine callS_a ?_); conv => whnf) | ((with_reducible refine bld_a ?_); conv => whnf) | ((with_reducible refine own_e ?_); conv => whnf) | ((with_reducible refine mkmap_b ?_); conv => whnf)))
            exact ⟨k + 1, by omega, le_mk ⟨rfl, rfl, rfl, rfl, int_eq (by rw [nx, min_if]), rfl, rfl, rfl, trivial⟩ ⟨rfl, rfl, rfl, trivial⟩ rfl, by omega⟩
          · rw [if_neg e2, Int.add_zero] at nx
            (conv => whnf); (repeat (first | (refine arith_i ⟨by omega, by omega⟩ ?_; conv => whnf) | (refine need_i (by first | omega | (simp only [List.length_append, List.length_cons, List.length_nil]; omega)) ?_; conv => whnf) | ((with_reducible refine branch_tt ?_); conv => whnf) | ((with_reducible refine branch_ff ?_); conv => whnf) | (with_reducible refine branch_not ?_) | ((with_reducible refine slc_e ?_); conv => whnf) | ((with_reducible refine callS_a ?_); conv => whnf) | ((with_reducible refine bld_a ?_); conv => whnf) | ((with_reducible refine own_e ?_); conv => whnf) | ((with_reducible refine mkmap_b ?_); conv => whnf)))
            exact ⟨k + 1, by omega, le_mk ⟨rfl, rfl, rfl, rfl, int_eq (by rw [nx]), rfl, rfl, rfl, trivial⟩ ⟨rfl, rfl, rfl, trivial⟩ rfl, by omega⟩
      · have hkn : k = P.costs.length := by omega
        subst hkn
        (conv => whnf); (repeat (first | (refine arith_i ⟨by omega, by omega⟩ ?_; conv => whnf) | (refine need_i (by first | omega | (simp only [List.length_append, List.length_cons, List.length_nil]; omega)) ?_; conv => whnf) | ((with_reducible refine branch_tt ?_); conv => whnf) | ((with_reducible refine branch_ff ?_); conv => whnf) | (with_reducible refine branch_not ?_) | ((with_reducible refine slc_e ?_); conv => whnf) | ((with_reducible refine callS_a ?_); conv => whnf) | ((with_reducible refine bld_a ?_); conv => whnf) | ((with_reducible refine own_e ?_); conv => whnf) | ((with_reducible refine mkmap_b ?_); conv => whnf)))
        refine call_e (ceil_ok (totF P st n P.costs.length) n.den (by omega) hd (by have := tdiv_in (a := totF P st n P.costs.length) hd.1; omega)) ?_
        (conv => whnf); (repeat (first | (refine arith_i ⟨by omega, by omega⟩ ?_; conv => whnf) | (refine need_i (by first | omega | (simp only [List.length_append, List.length_cons, List.length_nil]; omega)) ?_; conv => whnf) | ((with_reducible refine branch_tt ?_); conv => whnf) | ((with_reducible refine branch_ff ?_); conv => whnf) | (with_reducible refine branch_not ?_) | ((with_reducible refine slc_e ?_); conv => whnf) | ((with_reducible refine callS_a ?_); conv => whnf) | ((with_reducible refine bld_a ?_); conv => whnf) | ((with_reducible refine own_e ?_); conv => whnf) | ((with_reducible refine mkmap_b ?_); conv => whnf)))
        exact ret_p rfl rfl
  · have er : encRow (rowOf P n) = [.lst 1 (List.replicate (P.costs.map encI).length [.int .i64 0]), .int .i64 0, .int .i64 0] := by
      rw [rowOf, if_pos (by omega), L1]
      simp [encRow, ints, encI, List.map_replicate]
    (conv => whnf); (repeat (first | (refine arith_i ⟨by omega, by omega⟩ ?_; conv => whnf) | (refine need_i (by first | omega | (simp only [List.length_append, List.length_cons, List.length_nil]; omega)) ?_; conv => whnf) | ((with_reducible refine branch_tt ?_); conv => whnf) | ((with_reducible refine branch_ff ?_); conv => whnf) | (with_reducible refine branch_not ?_) | ((with_reducible refine slc_e ?_); conv => whnf) | ((with_reducible refine callS_a ?_); conv => whnf) | ((with_reducible refine bld_a ?_); conv => whnf) | ((with_reducible refine own_e ?_); conv => whnf) | ((with_reducible refine mkmap_b ?_); conv => whnf)))
    refine rest_i (mkSt [(1, ints st), (3, .ptr 3 0), (5, .ptr 5 0), (7, .ptr 7 0)] [(3, [ints P.costs, rowsV P.rows]), (5, encN n), (7, encRow (rowOf P n))] false) (Le.trans (le_erase 15) (le_mk ⟨rfl, rfl, rfl, rfl, trivial⟩ ⟨rfl, rfl, by rw [er]; rfl, trivial⟩ rfl)) ?_
    (conv => whnf); (repeat (first | (refine arith_i ⟨by omega, by omega⟩ ?_; conv => whnf) | (refine need_i (by first | omega | (simp only [List.length_append, List.length_cons, List.length_nil]; omega)) ?_; conv => whnf) | ((with_reducible refine branch_tt ?_); conv => whnf) | ((with_reducible refine branch_ff ?_); conv => whnf) | (with_reducible refine branch_not ?_) | ((with_reducible refine slc_e ?_); conv => whnf) | ((with_reducible refine callS_a ?_); conv => whnf) | ((with_reducible refine bld_a ?_); conv => whnf) | ((with_reducible refine own_e ?_); conv => whnf) | ((with_reducible refine mkmap_b ?_); conv => whnf)))
    have m1 := mul_in (a := n.num) (b := (rowOf P n).least) (A := 10000) (B := 1000000) (by omega) (by have := hr.le; omega)
    have m2 := mul_in (a := n.num) (b := (rowOf P n).most) (A := 10000) (B := 1000000) (by omega) (by have := hr.mo; omega)
    refine arith_i (by omega) ?_
    (conv => whnf); (repeat (first | (refine arith_i ⟨by omega, by omega⟩ ?_; conv => whnf) | (refine need_i (by first | omega | (simp only [List.length_append, List.length_cons, List.length_nil]; omega)) ?_; conv => whnf) | ((with_reducible refine branch_tt ?_); conv => whnf) | ((with_reducible refine branch_ff ?_); conv => whnf) | (with_reducible refine branch_not ?_) | ((with_reducible refine slc_e ?_); conv => whnf) | ((with_reducible refine callS_a ?_); conv => whnf) | ((with_reducible refine bld_a ?_); conv => whnf) | ((with_reducible refine own_e ?_); conv => whnf) | ((with_reducible refine mkmap_b ?_); conv => whnf)))
    have fin : ∀ t : Int, t = startF P n → True := fun _ _ => trivial
    refine branch_d (fun hneg => ?_) (fun hneg => ?_)
    · (conv => whnf); (repeat (first | (refine arith_i ⟨by omega, by omega⟩ ?_; conv => whnf) | (refine need_i (by first | omega | (simp only [List.length_append, List.length_cons, List.length_nil]; omega)) ?_; conv => whnf) | ((with_reducible refine branch_tt ?_); conv => whnf) | ((with_reducible refine branch_ff ?_); conv => whnf) | (with_reducible refine branch_not ?_) | ((with_reducible refine slc_e ?_); conv => whnf) | ((with_reducible refine callS_a ?_); conv => whnf) | ((with_reducible refine bld_a ?_); conv => whnf) | ((with_reducible refine own_e ?_); conv => whnf) | ((with_reducible refine mkmap_b ?_); conv => whnf)))
      refine loop_i (fun k : Nat => k ≤ P.costs.length) (fun k => mkSt [(1, ints st), (3, .ptr 3 0), (5, .ptr 5 0), (7, .ptr 7 0), (8, .int .i64 (totF P st n k)), (40, ints P.costs), (41, .int .i64 (P.costs.map encI).length), (42, .int .i64 k)] [(3, [ints P.costs, rowsV P.rows]), (5, encN n), (7, encRow (rowOf P n))] false) (fun k => P.costs.length - k) 0 (Nat.zero_le _) (le_mk ⟨rfl, rfl, rfl, rfl, int_eq (by simp [totF, sumN, startF, hneg]), rfl, rfl, rfl, trivial⟩ ⟨rfl, rfl, rfl, trivial⟩ rfl) ?_
      intro k hk
      have ht := tot_in hv hb st k (by omega)
      have hnv := nodeV_in hv hb k
      have hco := hr.co k
      have hcs := cost_in hv k
      have Lc : ((rowOf P n).coefs.map encI).length = (rowOf P n).coefs.length := List.length_map ..
      have Lc2 := hr.len
      (conv => whnf); (repeat (first | (refine arith_i ⟨by omega, by omega⟩ ?_; conv => whnf) | (refine need_i (by first | omega | (simp only [List.length_append, List.length_cons, List.length_nil]; omega)) ?_; conv => whnf) | ((with_reducible refine branch_tt ?_); conv => whnf) | ((with_reducible refine branch_ff ?_); conv => whnf) | (with_reducible refine branch_not ?_) | ((with_reducible refine slc_e ?_); conv => whnf) | ((with_reducible refine callS_a ?_); conv => whnf) | ((with_reducible refine bld_a ?_); conv => whnf) | ((with_reducible refine own_e ?_); conv => whnf) | ((with_reducible refine mkmap_b ?_); conv => whnf)))
      refine branch_d (fun h => ?_) (fun h => ?_)
      · (conv => whnf); (repeat (first | (refine arith_i ⟨by omega, by omega⟩ ?_; conv => whnf) | (refine need_i (by first | omega | (simp only [List.length_append, List.length_cons, List.length_nil]; omega)) ?_; conv => whnf) | ((with_reducible refine branch_tt ?_); conv => whnf) | ((with_reducible refine branch_ff ?_); conv => whnf) | (with_reducible refine branch_not ?_) | ((with_reducible refine slc_e ?_); conv => whnf) | ((with_reducible refine callS_a ?_); conv => whnf) | ((with_reducible refine bld_a ?_); conv => whnf) | ((with_reducible refine own_e ?_); conv => whnf) | ((with_reducible refine mkmap_b ?_); conv => whnf)))
        refine idx_m (by omega) (by omega) fun c hc => ?_
        rw [Int.toNat_natCast] at hc
        have ec := nth_eq hc
        have q1 := mul_in (a := n.den) (b := c) (A := 10000) (B := 10000) (by omega) (by omega)
        (conv => whnf); (repeat (first | (refine arith_i ⟨by omega, by omega⟩ ?_; conv => whnf) | (refine need_i (by first | omega | (simp only [List.length_append, List.length_cons, List.length_nil]; omega)) ?_; conv => whnf) | ((with_reducible refine branch_tt ?_); conv => whnf) | ((with_reducible refine branch_ff ?_); conv => whnf) | (with_reducible refine branch_not ?_) | ((with_reducible refine slc_e ?_); conv => whnf) | ((with_reducible refine callS_a ?_); conv => whnf) | ((with_reducible refine bld_a ?_); conv => whnf) | ((with_reducible refine own_e ?_); conv => whnf) | ((with_reducible refine mkmap_b ?_); conv => whnf)))
        refine draw_i 14 (.take 0 (.take 1 (.take 2 (.take 3 (.take 4 (.take 5 (.take 6 (.take 7 (.take 8 (.take 9 (.take 10 (.take 11 (.take 12 (.take 13 .done)))))))))))))) (by decide +kernel) ?_
        (conv => whnf); (repeat (first | (refine arith_i ⟨by omega, by omega⟩ ?_; conv => whnf) | (refine need_i (by first | omega | (simp only [List.length_append, List.length_cons, List.length_nil]; omega)) ?_; conv => whnf) | ((with_reducible refine branch_tt ?_); conv => whnf) | ((with_reducible refine branch_ff ?_); conv => whnf) | (with_reducible refine branch_not ?_) | ((with_reducible refine slc_e ?_); conv => whnf) | ((with_reducible refine callS_a ?_); conv => whnf) | ((with_reducible refine bld_a ?_); conv => whnf) | ((with_reducible refine own_e ?_); conv => whnf) | ((with_reducible refine mkmap_b ?_); conv => whnf)))
        refine idx_m (by omega) (by omega) fun co hco2 => ?_
        rw [Int.toNat_natCast] at hco2
        have eco := nth_eq hco2
        have q2 := mul_in (a := n.num) (b := co) (A := 10000) (B := 10000) (by omega) (by omega)
        have env : nodeV P n k = n.den * c - n.num * co := by rw [nodeV, ec, eco]
        (conv => whnf); (repeat (first | (refine arith_i ⟨by omega, by omega⟩ ?_; conv => whnf) | (refine need_i (by first | omega | (simp only [List.length_append, List.length_cons, List.length_nil]; omega)) ?_; conv => whnf) | ((with_reducible refine branch_tt ?_); conv => whnf) | ((with_reducible refine branch_ff ?_); conv => whnf) | (with_reducible refine branch_not ?_) | ((with_reducible refine slc_e ?_); conv => whnf) | ((with_reducible refine callS_a ?_); conv => whnf) | ((with_reducible refine bld_a ?_); conv => whnf) | ((with_reducible refine own_e ?_); conv => whnf) | ((with_reducible refine mkmap_b ?_); conv => whnf)))
        refine idx_m (by omega) (by omega) fun sx hsx => ?_
        rw [Int.toNat_natCast] at hsx
        have esx := nth_eq hsx
        have nx := tot_next (P := P) (st := st) (n := n) (k := k)
        rw [esx, env] at nx
        (conv => whnf); (repeat (first | (refine arith_i ⟨by omega, by omega⟩ ?_; conv => whnf) | (refine need_i (by first | omega | (simp only [List.length_append, List.length_cons, List.length_nil]; omega)) ?_; conv => whnf) | ((with_reducible refine branch_tt ?_); conv => whnf) | ((with_reducible refine branch_ff ?_); conv => whnf) | (with_reducible refine branch_not ?_) | ((with_reducible refine slc_e ?_); conv => whnf) | ((with_reducible refine callS_a ?_); conv => whnf) | ((with_reducible refine bld_a ?_); conv => whnf) | ((with_reducible refine own_e ?_); conv => whnf) | ((with_reducible refine mkmap_b ?_); conv => whnf)))
        refine branch_e (fun e1 => ?_) (fun e1 => ?_)
        · rw [contr, if_pos e1] at nx
          (conv => whnf); (repeat (first | (refine arith_i ⟨by omega, by omega⟩ ?_; conv => whnf) | (refine need_i (by first | omega | (simp only [List.length_append, List.length_cons, List.length_nil]; omega)) ?_; conv => whnf) | ((with_reducible refine branch_tt ?_); conv => whnf) | ((with_reducible refine branch_ff ?_); conv => whnf) | (with_reducible refine branch_not ?_) | ((with_reducible refine slc_e ?_); conv => whnf) | ((with_reducible refine callS_a ?_); conv => whnf) | ((with_reducible refine bld_a ?_); conv => whnf) | ((with_reducible refine own_e ?_); conv => whnf) | ((with_reducible refine mkmap_b ?_); conv => whnf)))
          exact ⟨k + 1, by omega, le_mk ⟨rfl, rfl, rfl, rfl, int_eq (by rw [nx]), rfl, rfl, rfl, trivial⟩ ⟨rfl, rfl, rfl, trivial⟩ rfl, by omega⟩
        · rw [contr, if_neg e1] at nx
          (conv => whnf); (repeat (first | (refine arith_i ⟨by omega, by omega⟩ ?_; conv => whnf) | (refine need_i (by first | omega | (simp only [List.length_append, List.length_cons, List.length_nil]; omega)) ?_; conv => whnf) | ((with_reducible refine branch_tt ?_); conv => whnf) | ((with_reducible refine branch_ff ?_); conv => whnf) | (with_reducible refine branch_not ?_) | ((with_reducible refine slc_e ?_); conv => whnf) | ((with_reducible refine callS_a ?_); conv => whnf) | ((with_reducible refine bld_a ?_); conv => whnf) | ((with_reducible refine own_e ?_); conv => whnf) | ((with_reducible refine mkmap_b ?_); conv => whnf)))
          refine branch_e (fun e2 => ?_) (fun e2 => ?_)
          · rw [if_pos e2] at nx
            (conv => whnf); (repeat (first | (refine arith_i ⟨by omega, by omega⟩ ?_; conv => whnf) | (refine need_i (by first | omega | (simp only [List.length_append, List.length_cons, List.length_nil]; omega)) ?_; conv => whnf) | ((with_reducible refine branch_tt ?_); conv => whnf) | ((with_reducible refine branch_ff ?_); conv => whnf) | (with_reducible refine branch_not ?_) | ((with_reducible refine slc_e ?_); conv => whnf) | ((with_reducible refine callS_a ?_); conv => whnf) | ((with_reducible refine bld_a ?_); conv => whnf) | ((with_reducible refine own_e ?_); conv => whnf) | ((with_reducible refine mkmap_b ?_); conv => whnf)))
            exact ⟨k + 1, by omega, le_mk ⟨rfl, rfl, rfl, rfl, int_eq (by rw [nx, min_if]), rfl, rfl, rfl, trivial⟩ ⟨rfl, rfl, rfl, trivial⟩ rfl, by omega⟩
          · rw [if_neg e2, Int.add_zero] at nx
            (conv => whnf); (repeat (first | (refine arith_i ⟨by omega, by omega⟩ ?_; conv => whnf) | (refine need_i (by first | omega | (simp only [List.length_append, List.length_cons, List.length_nil]; omega)) ?_; conv => whnf) | ((with_reducible refine branch_tt ?_); conv => whnf) | ((with_reducible refine branch_ff ?_); conv => whnf) | (with_reducible refine branch_not ?_) | ((with_reducible refine slc_e ?_); conv => whnf) | ((with_reducible refine callS_a ?_); conv => whnf) | ((with_reducible refine bld_a ?_); conv => whnf) | ((with_reducible refine own_e ?_); conv => whnf) | ((with_reducible refine mkmap_b ?_); conv => whnf)))
            exact ⟨k + 1, by omega, le_mk ⟨rfl, rfl, rfl, rfl, int_eq (by rw [nx]), rfl, rfl, rfl, trivial⟩ ⟨rfl, rfl, rfl, trivial⟩ rfl, by omega⟩
      · have hkn : k = P.costs.length := by omega
        subst hkn
        (conv => whnf); (repeat (first | (refine arith_i ⟨by omega, by omega⟩ ?_; conv => whnf) | (refine need_i (by first | omega | (simp only [List.length_append, List.length_cons, List.length_nil]; omega)) ?_; conv => whnf) | ((with_reducible refine branch_tt ?_); conv => whnf) | ((with_reducible refine branch_ff ?_); conv => whnf) | (with_reducible refine branch_not ?_) | ((with_reducible refine slc_e ?_); conv => whnf) | ((with_reducible refine callS_a ?_); conv => whnf) | ((with_reducible refine bld_a ?_); conv => whnf) | ((with_reducible refine own_e ?_); conv => whnf) | ((with_reducible refine mkmap_b ?_); conv => whnf)))
        refine call_e (ceil_ok (totF P st n P.costs.length) n.den (by omega) hd (by have := tdiv_in (a := totF P st n P.costs.length) hd.1; omega)) ?_
        (conv => whnf); (repeat (first | (refine arith_i ⟨by omega, by omega⟩ ?_; conv => whnf) | (refine need_i (by first | omega | (simp only [List.length_append, List.length_cons, List.length_nil]; omega)) ?_; conv => whnf) | ((with_reducible refine branch_tt ?_); conv => whnf) | ((with_reducible refine branch_ff ?_); conv => whnf) | (with_reducible refine branch_not ?_) | ((with_reducible refine slc_e ?_); conv => whnf) | ((with_reducible refine callS_a ?_); conv => whnf) | ((with_reducible refine bld_a ?_); conv => whnf) | ((with_reducible refine own_e ?_); conv => whnf) | ((with_reducible refine mkmap_b ?_); conv => whnf)))
        exact ret_p rfl rfl
    · (conv => whnf); (repeat (first | (refine arith_i ⟨by omega, by omega⟩ ?_; conv => whnf) | (refine need_i (by first | omega | (simp only [List.length_append, List.length_cons, List.length_nil]; omega)) ?_; conv => whnf) | ((with_reducible refine branch_tt ?_); conv => whnf) | ((with_reducible refine branch_ff ?_); conv => whnf) | (with_reducible refine branch_not ?_) | ((with_reducible refine slc_e ?_); conv => whnf) | ((with_reducible refine callS_a ?_); conv => whnf) | ((with_reducible refine bld_a ?_); conv => whnf) | ((with_reducible refine own_e ?_); conv => whnf) | ((with_reducible refine mkmap_b ?_); conv => whnf)))
      refine loop_i (fun k : Nat => k ≤ P.costs.length) (fun k => mkSt [(1, ints st), (3, .ptr 3 0), (5, .ptr 5 0), (7, .ptr 7 0), (8, .int .i64 (totF P st n k)), (40, ints P.costs), (41, .int .i64 (P.costs.map encI).length), (42, .int .i64 k)] [(3, [ints P.costs, rowsV P.rows]), (5, encN n), (7, encRow (rowOf P n))] false) (fun k => P.costs.length - k) 0 (Nat.zero_le _) (le_mk ⟨rfl, rfl, rfl, rfl, int_eq (by simp [totF, sumN, startF, hneg]), rfl, rfl, rfl, trivial⟩ ⟨rfl, rfl, rfl, trivial⟩ rfl) ?_
      intro k hk
      have ht := tot_in hv hb st k (by omega)
      have hnv := nodeV_in hv hb k
      have hco := hr.co k
      have hcs := cost_in hv k
      have Lc : ((rowOf P n).coefs.map encI).length = (rowOf P n).coefs.length := List.length_map ..
      have Lc2 := hr.len
      (conv => whnf); (repeat (first | (refine arith_i ⟨by omega, by omega⟩ ?_; conv => whnf) | (refine need_i (by first | omega | (simp only [List.length_append, List.length_cons, List.length_nil]; omega)) ?_; conv => whnf) | ((with_reducible refine branch_tt ?_); conv => whnf) | ((with_reducible refine branch_ff ?_); conv => whnf) | (with_reducible refine branch_not ?_) | ((with_reducible refine slc_e ?_); conv => whnf) | ((with_reducible refine callS_a ?_); conv => whnf) | ((with_reducible refine bld_a ?_); conv => whnf) | ((with_reducible refine own_e ?_); conv => whnf) | ((with_reducible refine mkmap_b ?_); conv => whnf)))
      refine branch_d (fun h => ?_) (fun h => ?_)
      · (conv => whnf); (repeat (first | (refine arith_i ⟨by omega, by omega⟩ ?_; conv => whnf) | (refine need_i (by first | omega | (simp only [List.length_append, List.length_cons, List.length_nil]; omega)) ?_; conv => whnf) | ((with_reducible refine branch_tt ?_); conv => whnf) | ((with_reducible refine branch_ff ?_); conv => whnf) | (with_reducible refine branch_not ?_) | ((with_reducible refine slc_e ?_); conv => whnf) | ((with_reducible refine callS_a ?_); conv => whnf) | ((with_reducible refine bld_a ?_); conv => whnf) | ((with_reducible refine own_e ?_); conv => whnf) | ((with_reducible refine mkmap_b ?_); conv => whnf)))
        refine idx_m (by omega) (by omega) fun c hc => ?_
        rw [Int.toNat_natCast] at hc
        have ec := nth_eq hc
        have q1 := mul_in (a := n.den) (b := c) (A := 10000) (B := 10000) (by omega) (by omega)
        (conv => whnf); (repeat (first | (refine arith_i ⟨by omega, by omega⟩ ?_; conv => whnf) | (refine need_i (by first | omega | (simp only [List.length_append, List.length_cons, List.length_nil]; omega)) ?_; conv => whnf) | ((with_reducible refine branch_tt ?_); conv => whnf) | ((with_reducible refine branch_ff ?_); conv => whnf) | (with_reducible refine branch_not ?_) | ((with_reducible refine slc_e ?_); conv => whnf) | ((with_reducible refine callS_a ?_); conv => whnf) | ((with_reducible refine bld_a ?_); conv => whnf) | ((with_reducible refine own_e ?_); conv => whnf) | ((with_reducible refine mkmap_b ?_); conv => whnf)))
        refine draw_i 14 (.take 0 (.take 1 (.take 2 (.take 3 (.take 4 (.take 5 (.take 6 (.take 7 (.take 8 (.take 9 (.take 10 (.take 11 (.take 12 (.take 13 .done)))))))))))))) (by decide +kernel) ?_
        (conv => whnf); (repeat (first | (refine arith_i ⟨by omega, by omega⟩ ?_; conv => whnf) | (refine need_i (by first | omega | (simp only [List.length_append, List.length_cons, List.length_nil]; omega)) ?_; conv => whnf) | ((with_reducible refine branch_tt ?_); conv => whnf) | ((with_reducible refine branch_ff ?_); conv => whnf) | (with_reducible refine branch_not ?_) | ((with_reducible refine slc_e ?_); conv => whnf) | ((with_reducible refine callS_a ?_); conv => whnf) | ((with_reducible refine bld_a ?_); conv => whnf) | ((with_reducible refine own_e ?_); conv => whnf) | ((with_reducible refine mkmap_b ?_); conv => whnf)))
        refine idx_m (by omega) (by omega) fun co hco2 => ?_
        rw [Int.toNat_natCast] at hco2
        have eco := nth_eq hco2
        have q2 := mul_in (a := n.num) (b := co) (A := 10000) (B := 10000) (by omega) (by omega)
        have env : nodeV P n k = n.den * c - n.num * co := by rw [nodeV, ec, eco]
        (conv => whnf); (repeat (first | (refine arith_i ⟨by omega, by omega⟩ ?_; conv => whnf) | (refine need_i (by first | omega | (simp only [List.length_append, List.length_cons, List.length_nil]; omega)) ?_; conv => whnf) | ((with_reducible refine branch_tt ?_); conv => whnf) | ((with_reducible refine branch_ff ?_); conv => whnf) | (with_reducible refine branch_not ?_) | ((with_reducible refine slc_e ?_); conv => whnf) | ((with_reducible refine callS_a ?_); conv => whnf) | ((with_reducible refine bld_a ?_); conv => whnf) | ((with_reducible refine own_e ?_); conv => whnf) | ((with_reducible refine mkmap_b ?_); conv => whnf)))
        refine idx_m (by omega) (by omega) fun sx hsx => ?_
        rw [Int.toNat_natCast] at hsx
        have esx := nth_eq hsx
        have nx := tot_next (P := P) (st := st) (n := n) (k := k)
        rw [esx, env] at nx
        (conv => whnf); (repeat (first | (refine arith_i ⟨by omega, by omega⟩ ?_; conv => whnf) | (refine need_i (by first | omega | (simp only [List.length_append, List.length_cons, List.length_nil]; omega)) ?_; conv => whnf) | ((with_reducible refine branch_tt ?_); conv => whnf) | ((with_reducible refine branch_ff ?_); conv => whnf) | (with_reducible refine branch_not ?_) | ((with_reducible refine slc_e ?_); conv => whnf) | ((with_reducible refine callS_a ?_); conv => whnf) | ((with_reducible refine bld_a ?_); conv => whnf) | ((with_reducible refine own_e ?_); conv => whnf) | ((with_reducible refine mkmap_b ?_); conv => whnf)))
        refine branch_e (fun e1 => ?_) (fun e1 => ?_)
        · rw [contr, if_pos e1] at nx
          (conv => whnf); (repeat (first | (refine arith_i ⟨by omega, by omega⟩ ?_; conv => whnf) | (refine need_i (by first | omega | (simp only [List.length_append, List.length_cons, List.length_nil]; omega)) ?_; conv => whnf) | ((with_reducible refine branch_tt ?_); conv => whnf) | ((with_reducible refine branch_ff ?_); conv => whnf) | (with_reducible refine branch_not ?_) | ((with_reducible refine slc_e ?_); conv => whnf) | ((with_reducible refine callS_a ?_); conv => whnf) | ((with_reducible refine bld_a ?_); conv => whnf) | ((with_reducible refine own_e ?_); conv => whnf) | ((with_reducible refine mkmap_b ?_); conv => whnf)))
          exact ⟨k + 1, by omega, le_mk ⟨rfl, rfl, rfl, rfl, int_eq (by rw [nx]), rfl, rfl, rfl, trivial⟩ ⟨rfl, rfl, rfl, trivial⟩ rfl, by omega⟩
        · rw [contr, if_neg e1] at nx
          (conv => whnf); (repeat (first | (refine arith_i ⟨by omega, by omega⟩ ?_; conv => whnf) | (refine need_i (by first | omega | (simp only [List.length_append, List.length_cons, List.length_nil]; omega)) ?_; conv => whnf) | ((with_reducible refine branch_tt ?_); conv => whnf) | ((with_reducible refine branch_ff ?_); conv => whnf) | (with_reducible refine branch_not ?_) | ((with_reducible refine slc_e ?_); conv => whnf) | ((with_reducible refine callS_a ?_); conv => whnf) | ((with_reducible refine bld_a ?_); conv => whnf) | ((with_reducible refine own_e ?_); conv => whnf) | ((with_reducible refine mkmap_b ?_); conv => whnf)))
          refine branch_e (fun e2 => ?_) (fun e2 => ?_)
          · rw [if_pos e2] at nx
            (conv => whnf); (repeat (first | (refine arith_i ⟨by omega, by omega⟩ ?_; conv => whnf) | (refine need_i (by first | omega | (simp only [List.length_append, List.length_cons, List.length_nil]; omega)) ?_; conv => whnf) | ((with_reducible refine branch_tt ?_); conv => whnf) | ((with_reducible refine branch_ff ?_); conv => whnf) | (with_reducible refine branch_not ?_) | ((with_reducible refine slc_e ?_); conv => whnf) | ((with_reducible refine callS_a ?_); conv => whnf) | ((with_reducible refine bld_a ?_); conv => whnf) | ((with_reducible refine own_e ?_); conv => whnf) | ((with_reducible refine mkmap_b ?_); conv => whnf)))
            exact ⟨k + 1, by omega, le_mk ⟨rfl, rfl, rfl, rfl, int_eq (by rw [nx, min_if]), rfl, rfl, rfl, trivial⟩ ⟨rfl, rfl, rfl, trivial⟩ rfl, by omega⟩
          · rw [if_neg e2, Int.add_zero] at nx
            (conv => whnf); (repeat (first | (refine arith_i ⟨by omega, by omega⟩ ?_; conv => whnf) | (refine need_i (by first | omega | (simp only [List.length_append, List.length_cons, List.length_nil]; omega)) ?_; conv => whnf) | ((with_reducible refine branch_tt ?_); conv => whnf) | ((with_reducible refine branch_ff ?_); conv => whnf) | (with_reducible refine branch_not ?_) | ((with_reducible refine slc_e ?_); conv => whnf) | ((with_reducible refine callS_a ?_); conv => whnf) | ((with_reducible refine bld_a ?_); conv => whnf) | ((with_reducible refine own_e ?_); conv => whnf) | ((with_reducible refine mkmap_b ?_); conv => whnf)))
            exact ⟨k + 1, by omega, le_mk ⟨rfl, rfl, rfl, rfl, int_eq (by rw [nx]), rfl, rfl, rfl, trivial⟩ ⟨rfl, rfl, rfl, trivial⟩ rfl, by omega⟩
      · have hkn : k = P.costs.length := by omega
        subst hkn
        (conv => whnf); (repeat (first | (refine arith_i ⟨by omega, by omega⟩ ?_; conv => whnf) | (refine need_i (by first | omega | (simp only [List.length_append, List.length_cons, List.length_nil]; omega)) ?_; conv => whnf) | ((with_reducible refine branch_tt ?_); conv => whnf) | ((with_reducible refine branch_ff ?_); conv => whnf) | (with_reducible refine branch_not ?_) | ((with_reducible refine slc_e ?_); conv => whnf) | ((with_reducible refine callS_a ?_); conv => whnf) | ((with_reducible refine bld_a ?_); conv => whnf) | ((with_reducible refine own_e ?_); conv => whnf) | ((with_reducible refine mkmap_b ?_); conv => whnf)))
        refine call_e (ceil_ok (totF P st n P.costs.length) n.den (by omega) hd (by have := tdiv_in (a := totF P st n P.costs.length) hd.1; omega)) ?_
        (conv => whnf); (repeat (first | (refine arith_i ⟨by omega, by omega⟩ ?_; conv => whnf) | (refine need_i (by first | omega | (simp only [List.length_append, List.length_cons, List.length_nil]; omega)) ?_; conv => whnf) | ((with_reducible refine branch_tt ?_); conv => whnf) | ((with_reducible refine branch_ff ?_); conv => whnf) | (with_reducible refine branch_not ?_) | ((with_reducible refine slc_e ?_); conv => whnf) | ((with_reducible refine callS_a ?_); conv => whnf) | ((with_reducible refine bld_a ?_); conv => whnf) | ((with_reducible refine own_e ?_); conv => whnf) | ((with_reducible refine mkmap_b ?_); conv => whnf)))
        exact ret_p rfl rfl
end Go.Proofs.Ytengafkfgcdpeaa
end

/- Layer 9 by the interpreter: Bound. -/
section
namespace Go.Proofs.Ytengafkfgcdpeaa
set_option linter.unusedVariables false
set_option linter.unusedSimpArgs false
set_option linter.unnecessarySimpa false
set_option linter.unusedSectionVars false
set_option maxRecDepth 10000
open Go.RowKit

def okB (P : Prog) (st : List Int) (n : Nd) : Bool := validB P && stOB st P.costs.length && bndB P.rows.length n
def boundV (P : Prog) (st : List Int) (n : Nd) : AV := .tup [.int .i64 (if okB P st n = true then boundF P st n else 0), .bool (okB P st n)]
theorem bound_ok (P : Prog) (st : List Int) (n : Nd) (hP : Fits P) (hl : st.length ≤ 1000000) : Good Try.prog TT false 95 [progV P, ints st, .agg (encN n)] (· = boundV P st n) := by
  have L1 : (P.costs.map encI).length = P.costs.length := List.length_map ..
  have bad : okB P st n = false → aret (.tup [.int .i64 0, .bool false]) (· = boundV P st n) := fun h =>
    ret_t (rs := [.int .i64 0, .bool false]) ⟨(rc_p rfl).g, (rc_p rfl).g, trivial⟩ (by rw [boundV, h]; rfl)
  refine good_of mixed tabOk Try.func95 rfl rfl Try.ntmps95 Try.results95 rfl rfl ?_
  (conv => whnf); (repeat (first | (refine arith_i ⟨by omega, by omega⟩ ?_; conv => whnf) | (refine need_i (by first | omega | (simp only [List.length_append, List.length_cons, List.length_nil]; omega)) ?_; conv => whnf) | ((with_reducible refine branch_tt ?_); conv => whnf) | ((with_reducible refine branch_ff ?_); conv => whnf) | (with_reducible refine branch_not ?_) | ((with_reducible refine slc_e ?_); conv => whnf) | ((with_reducible refine callS_a ?_); conv => whnf) | ((with_reducible refine bld_a ?_); conv => whnf) | ((with_reducible refine own_e ?_); conv => whnf) | ((with_reducible refine mkmap_b ?_); conv => whnf)))
  refine call_e (valid_ok P hP.1 hP.2.1 hP.2.2) ?_
  (conv => whnf); (repeat (first | (refine arith_i ⟨by omega, by omega⟩ ?_; conv => whnf) | (refine need_i (by first | omega | (simp only [List.length_append, List.length_cons, List.length_nil]; omega)) ?_; conv => whnf) | ((with_reducible refine branch_tt ?_); conv => whnf) | ((with_reducible refine branch_ff ?_); conv => whnf) | (with_reducible refine branch_not ?_) | ((with_reducible refine slc_e ?_); conv => whnf) | ((with_reducible refine callS_a ?_); conv => whnf) | ((with_reducible refine bld_a ?_); conv => whnf) | ((with_reducible refine own_e ?_); conv => whnf) | ((with_reducible refine mkmap_b ?_); conv => whnf)))
  refine branch_i (fun hv => ?_) (fun hv => ?_)
  · (conv => whnf); (repeat (first | (refine arith_i ⟨by omega, by omega⟩ ?_; conv => whnf) | (refine need_i (by first | omega | (simp only [List.length_append, List.length_cons, List.length_nil]; omega)) ?_; conv => whnf) | ((with_reducible refine branch_tt ?_); conv => whnf) | ((with_reducible refine branch_ff ?_); conv => whnf) | (with_reducible refine branch_not ?_) | ((with_reducible refine slc_e ?_); conv => whnf) | ((with_reducible refine callS_a ?_); conv => whnf) | ((with_reducible refine bld_a ?_); conv => whnf) | ((with_reducible refine own_e ?_); conv => whnf) | ((with_reducible refine mkmap_b ?_); conv => whnf)))
    have hG : Good Try.prog TT false 116 [ints st, .int .i64 (P.costs.map encI).length] (· = .bool (stOB st P.costs.length)) := by rw [L1]; exact oState_ok st P.costs.length hl
    refine call_e hG ?_
    (conv => whnf); (repeat (first | (refine arith_i ⟨by omega, by omega⟩ ?_; conv => whnf) | (refine need_i (by first | omega | (simp only [List.length_append, List.length_cons, List.length_nil]; omega)) ?_; conv => whnf) | ((with_reducible refine branch_tt ?_); conv => whnf) | ((with_reducible refine branch_ff ?_); conv => whnf) | (with_reducible refine branch_not ?_) | ((with_reducible refine slc_e ?_); conv => whnf) | ((with_reducible refine callS_a ?_); conv => whnf) | ((with_reducible refine bld_a ?_); conv => whnf) | ((with_reducible refine own_e ?_); conv => whnf) | ((with_reducible refine mkmap_b ?_); conv => whnf)))
    refine branch_i (fun hs => ?_) (fun hs => ?_)
    · (conv => whnf); (repeat (first | (refine arith_i ⟨by omega, by omega⟩ ?_; conv => whnf) | (refine need_i (by first | omega | (simp only [List.length_append, List.length_cons, List.length_nil]; omega)) ?_; conv => whnf) | ((with_reducible refine branch_tt ?_); conv => whnf) | ((with_reducible refine branch_ff ?_); conv => whnf) | (with_reducible refine branch_not ?_) | ((with_reducible refine slc_e ?_); conv => whnf) | ((with_reducible refine callS_a ?_); conv => whnf) | ((with_reducible refine bld_a ?_); conv => whnf) | ((with_reducible refine own_e ?_); conv => whnf) | ((with_reducible refine mkmap_b ?_); conv => whnf)))
      refine call_e (oBound_ok P n) ?_
      (conv => whnf); (repeat (first | (refine arith_i ⟨by omega, by omega⟩ ?_; conv => whnf) | (refine need_i (by first | omega | (simp only [List.length_append, List.length_cons, List.length_nil]; omega)) ?_; conv => whnf) | ((with_reducible refine branch_tt ?_); conv => whnf) | ((with_reducible refine branch_ff ?_); conv => whnf) | (with_reducible refine branch_not ?_) | ((with_reducible refine slc_e ?_); conv => whnf) | ((with_reducible refine callS_a ?_); conv => whnf) | ((with_reducible refine bld_a ?_); conv => whnf) | ((with_reducible refine own_e ?_); conv => whnf) | ((with_reducible refine mkmap_b ?_); conv => whnf)))
      refine branch_i (fun hb => ?_) (fun hb => ?_)
      · (conv => whnf); (repeat (first | (refine arith_i ⟨by omega, by omega⟩ ?_; conv => whnf) | (refine need_i (by first | omega | (simp only [List.length_append, List.length_cons, List.length_nil]; omega)) ?_; conv => whnf) | ((with_reducible refine branch_tt ?_); conv => whnf) | ((with_reducible refine branch_ff ?_); conv => whnf) | (with_reducible refine branch_not ?_) | ((with_reducible refine slc_e ?_); conv => whnf) | ((with_reducible refine callS_a ?_); conv => whnf) | ((with_reducible refine bld_a ?_); conv => whnf) | ((with_reducible refine own_e ?_); conv => whnf) | ((with_reducible refine mkmap_b ?_); conv => whnf)))
        have hlen : st.length = P.costs.length := by
          simp only [stOB, Bool.and_eq_true, decide_eq_true_eq] at hs
          omega
        refine call_e (boundOf_ok P st n hv hlen hb) ?_
        (conv => whnf); (repeat (first | (refine arith_i ⟨by omega, by omega⟩ ?_; conv => whnf) | (refine need_i (by first | omega | (simp only [List.length_append, List.length_cons, List.length_nil]; omega)) ?_; conv => whnf) | ((with_reducible refine branch_tt ?_); conv => whnf) | ((with_reducible refine branch_ff ?_); conv => whnf) | (with_reducible refine branch_not ?_) | ((with_reducible refine slc_e ?_); conv => whnf) | ((with_reducible refine callS_a ?_); conv => whnf) | ((with_reducible refine bld_a ?_); conv => whnf) | ((with_reducible refine own_e ?_); conv => whnf) | ((with_reducible refine mkmap_b ?_); conv => whnf)))
        have ho : okB P st n = true := by simp [okB, hv, hs, hb]
        exact ret_t (rs := [.int .i64 (boundF P st n), .bool true]) ⟨(rc_p rfl).g, (rc_p rfl).g, trivial⟩ (by rw [boundV, ho]; rfl)
      · (conv => whnf); (repeat (first | (refine arith_i ⟨by omega, by omega⟩ ?_; conv => whnf) | (refine need_i (by first | omega | (simp only [List.length_append, List.length_cons, List.length_nil]; omega)) ?_; conv => whnf) | ((with_reducible refine branch_tt ?_); conv => whnf) | ((with_reducible refine branch_ff ?_); conv => whnf) | (with_reducible refine branch_not ?_) | ((with_reducible refine slc_e ?_); conv => whnf) | ((with_reducible refine callS_a ?_); conv => whnf) | ((with_reducible refine bld_a ?_); conv => whnf) | ((with_reducible refine own_e ?_); conv => whnf) | ((with_reducible refine mkmap_b ?_); conv => whnf)))
        exact bad (by simp [okB, hb])
    · (conv => whnf); (repeat (first | (refine arith_i ⟨by omega, by omega⟩ ?_; conv => whnf) | (refine need_i (by first | omega | (simp only [List.length_append, List.length_cons, List.length_nil]; omega)) ?_; conv => whnf) | ((with_reducible refine branch_tt ?_); conv => whnf) | ((with_reducible refine branch_ff ?_); conv => whnf) | (with_reducible refine branch_not ?_) | ((with_reducible refine slc_e ?_); conv => whnf) | ((with_reducible refine callS_a ?_); conv => whnf) | ((with_reducible refine bld_a ?_); conv => whnf) | ((with_reducible refine own_e ?_); conv => whnf) | ((with_reducible refine mkmap_b ?_); conv => whnf)))
      exact bad (by simp [okB, hs])
  · (conv => whnf); (repeat (first | (refine arith_i ⟨by omega, by omega⟩ ?_; conv => whnf) | (refine need_i (by first | omega | (simp only [List.length_append, List.length_cons, List.length_nil]; omega)) ?_; conv => whnf) | ((with_reducible refine branch_tt ?_); conv => whnf) | ((with_reducible refine branch_ff ?_); conv => whnf) | (with_reducible refine branch_not ?_) | ((with_reducible refine slc_e ?_); conv => whnf) | ((with_reducible refine callS_a ?_); conv => whnf) | ((with_reducible refine bld_a ?_); conv => whnf) | ((with_reducible refine own_e ?_); conv => whnf) | ((with_reducible refine mkmap_b ?_); conv => whnf)))
    exact bad (by simp [okB, hv])
end Go.Proofs.Ytengafkfgcdpeaa
end

/- Layer 10, plain: the choices in ascending order, the cheapest one. No program in sight. -/
section
namespace Go.Proofs.Ytengafkfgcdpeaa
set_option linter.unusedVariables false
set_option linter.unusedSimpArgs false
set_option linter.unnecessarySimpa false
set_option linter.unusedSectionVars false

/-- Whether a choice meets all rows. -/
def metB (P : Prog) (ch : List Int) : Bool := P.rows.all (meetB ch)
def here (P : Prog) (ch : List Int) : List (List Int) := if metB P ch then [ch] else []
/-- The choices that begin with ch and go on with options from a number on, m of them at most; ascending. -/
def loopF (P : Prog) : Nat → List Int → Nat → List (List Int)
  | 0, _, _ => []
  | m + 1, ch, i => here P (ch ++ [(i : Int)]) ++ loopF P m (ch ++ [(i : Int)]) (i + 1) ++ loopF P m ch (i + 1)
def visF (P : Prog) (ch : List Int) (i : Nat) : List (List Int) := here P ch ++ loopF P (P.costs.length - i) ch i
/-- All choices that meet the rows. -/
def allF (P : Prog) : List (List Int) := visF P [] 0
/-- The cheapest so far: found, cost, choice. -/
def bestS (P : Prog) (σ : Bool × Int × List Int) (ch : List Int) : Bool × Int × List Int :=
  if σ.1 = false ∨ sumOf P.costs ch < σ.2.1 then (true, sumOf P.costs ch, ch) else σ
def bestF (P : Prog) : Bool × Int × List Int := (allF P).foldl (bestS P) (false, 0, [])

/-- Ascending options within bounds. -/
def Asc (lo hi : Nat) (ch : List Int) : Prop := ch.Pairwise (· < ·) ∧ ∀ x ∈ ch, (lo : Int) ≤ x ∧ x < hi
theorem asc_choice {n : Nat} {ch : List Int} (h : Asc 0 n ch) : choiceB ch n = true := choice_of_asc h.1 fun x hx => by have := h.2 x hx; omega
theorem Asc.snoc {i n : Nat} {ch : List Int} (h : Asc 0 i ch) (hi : i < n) : Asc 0 (i + 1) (ch ++ [(i : Int)]) := by
  refine ⟨List.pairwise_append.2 ⟨h.1, List.pairwise_singleton _ _, fun x hx y hy => ?_⟩, fun x hx => ?_⟩
  · rw [List.mem_singleton.1 hy]; exact (h.2 x hx).2
  · rcases List.mem_append.1 hx with hx | hx
    · have := h.2 x hx; omega
    · rw [List.mem_singleton.1 hx]; omega
theorem Asc.mono {lo hi hi' : Nat} {ch : List Int} (h : Asc lo hi ch) (hh : hi ≤ hi') : Asc lo hi' ch := ⟨h.1, fun x hx => by have := h.2 x hx; omega⟩
/-- What is in the list. -/
theorem loop_mem {P : Prog} {c : List Int} : ∀ {m : Nat} {ch : List Int} {i : Nat}, c ∈ loopF P m ch i ↔ ∃ t, t ≠ [] ∧ Asc i (i + m) t ∧ c = ch ++ t ∧ metB P c = true
  | 0, ch, i => by
    simp only [loopF, List.not_mem_nil, false_iff]
    rintro ⟨t, h0, h1, -, -⟩
    cases t with
    | nil => exact h0 rfl
    | cons x t => have := h1.2 x (by simp); omega
  | m + 1, ch, i => by
    simp only [loopF, List.mem_append, loop_mem (m := m)]
    constructor
    · rintro ((h | ⟨t, h0, h1, h2, h3⟩) | ⟨t, h0, h1, h2, h3⟩)
      · simp only [here] at h
        split at h
        · next hm =>
          rw [List.mem_singleton.1 h]
          exact ⟨[(i : Int)], by simp, ⟨List.pairwise_singleton _ _, fun x hx => by rw [List.mem_singleton.1 hx]; omega⟩, rfl, hm⟩
        · simp at h
      · refine ⟨(i : Int) :: t, by simp, ⟨List.pairwise_cons.2 ⟨fun x hx => by have := h1.2 x hx; omega, h1.1⟩, fun x hx => ?_⟩, by rw [h2]; simp, h3⟩
        rcases List.mem_cons.1 hx with rfl | hx
        · omega
        · have := h1.2 x hx; omega
      · exact ⟨t, h0, ⟨h1.1, fun x hx => by have := h1.2 x hx; omega⟩, h2, h3⟩
    · rintro ⟨t, h0, h1, h2, h3⟩
      cases t with
      | nil => exact absurd rfl h0
      | cons x t =>
        have hx := h1.2 x (by simp)
        have hp := List.pairwise_cons.1 h1.1
        by_cases e : x = i
        · subst e
          left
          by_cases ht : t = []
          · subst ht
            left
            simp only [here]
            rw [h2] at h3
            rw [if_pos h3, h2]
            simp
          · right
            exact ⟨t, ht, ⟨hp.2, fun y hy => by have := hp.1 y hy; have := h1.2 y (by simp [hy]); omega⟩, by rw [h2]; simp, h3⟩
        · right
          exact ⟨x :: t, by simp, ⟨h1.1, fun y hy => by
            have h4 := h1.2 y hy
            rcases List.mem_cons.1 hy with rfl | hy
            · omega
            · have := hp.1 y hy; omega⟩, h2, h3⟩
theorem all_mem {P : Prog} {c : List Int} : c ∈ allF P ↔ Asc 0 P.costs.length c ∧ metB P c = true := by
  simp only [allF, visF, List.mem_append, loop_mem, here]
  constructor
  · rintro (h | ⟨t, h0, h1, h2, h3⟩)
    · split at h
      · next hm => rw [List.mem_singleton.1 h]; exact ⟨⟨List.Pairwise.nil, by simp⟩, hm⟩
      · simp at h
    · rw [List.nil_append] at h2
      subst h2
      exact ⟨⟨h1.1, fun x hx => by have := h1.2 x hx; omega⟩, h3⟩
  · rintro ⟨h1, h2⟩
    by_cases hc : c = []
    · subst hc; left; rw [if_pos h2]; simp
    · right
      exact ⟨c, hc, ⟨h1.1, fun x hx => by have := h1.2 x hx; omega⟩, by simp, h2⟩
theorem meets_asc {P : Prog} {c : List Int} (hv : validB P = true) (h : Asc 0 P.costs.length c) : meetsB P c = metB P c := by
  simp only [meetsB, hv, asc_choice h, Bool.true_and, metB]
theorem all_meets {P : Prog} {c : List Int} (hv : validB P = true) (h : c ∈ allF P) : meetsB P c = true ∧ costF P c = sumOf P.costs c ∧ Asc 0 P.costs.length c := by
  obtain ⟨h1, h2⟩ := all_mem.1 h
  exact ⟨by rw [meets_asc hv h1]; exact h2, by rw [costF, if_pos]; simp [costOk, hv, asc_choice h1], h1⟩
theorem sub_Asc (t n : Nat) : Asc 0 n (subTo t n) := ⟨sub_asc t n, fun x hx => by
  obtain ⟨i, h1, h2, _⟩ := mem_sub.1 hx
  subst h2
  omega⟩
/-! in ascending order -/
def befB : List Int → List Int → Bool
  | x :: a, y :: b => if x = y then befB a b else decide (x < y)
  | [], _ :: _ => true
  | _, [] => false
theorem bef_pre (p a b : List Int) : befB (p ++ a) (p ++ b) = befB a b := by
  induction p with
  | nil => rfl
  | cons x p ih => simp only [List.cons_append, befB, if_pos, ih]
theorem loop_sorted {P : Prog} : ∀ {m : Nat} {ch : List Int} {i : Nat}, (loopF P m ch i).Pairwise (fun a b => befB a b = true)
  | 0, ch, i => by simp [loopF]
  | m + 1, ch, i => by
    simp only [loopF]
    refine List.pairwise_append.2 ⟨List.pairwise_append.2 ⟨?_, loop_sorted, fun a ha b hb => ?_⟩, loop_sorted, fun a ha b hb => ?_⟩
    · simp only [here]; split <;> simp
    · simp only [here] at ha
      split at ha
      · rw [List.mem_singleton.1 ha]
        obtain ⟨t, h0, h1, h2, h3⟩ := loop_mem.1 hb
        subst h2
        have := bef_pre (ch ++ [(i : Int)]) [] t
        rw [List.append_nil] at this
        rw [this]
        cases t with
        | nil => exact absurd rfl h0
        | cons x t => rfl
      · simp at ha
    · obtain ⟨t, h0, h1, h2, h3⟩ := loop_mem.1 hb
      subst h2
      have hx : ∃ s, a = ch ++ ((i : Int) :: s) := by
        rcases List.mem_append.1 ha with ha | ha
        · simp only [here] at ha
          split at ha
          · rw [List.mem_singleton.1 ha]; exact ⟨[], rfl⟩
          · simp at ha
        · obtain ⟨s, _, _, h, _⟩ := loop_mem.1 ha
          exact ⟨s, by rw [h]; simp⟩
      obtain ⟨s, rfl⟩ := hx
      rw [bef_pre]
      cases t with
      | nil => exact absurd rfl h0
      | cons x t =>
        have := h1.2 x (by simp)
        simp only [befB]
        rw [if_neg (by omega)]
        simp; omega
theorem all_sorted {P : Prog} : (allF P).Pairwise (fun a b => befB a b = true) := by
  simp only [allF, visF]
  refine List.pairwise_append.2 ⟨by simp only [here]; split <;> simp, loop_sorted, fun a ha b hb => ?_⟩
  simp only [here] at ha
  split at ha
  · rw [List.mem_singleton.1 ha]
    obtain ⟨t, h0, h1, h2, h3⟩ := loop_mem.1 hb
    rw [List.nil_append] at h2
    rw [h2]
    cases t with
    | nil => exact absurd rfl h0
    | cons x t => rfl
  · simp at ha
theorem bef_asymm : ∀ {a b : List Int}, befB a b = true → befB b a = false
  | [], [], h => by cases h
  | [], _ :: _, _ => rfl
  | _ :: _, [], h => by cases h
  | x :: a, y :: b, h => by
    simp only [befB] at h ⊢
    by_cases e : x = y
    · subst e; simp only [if_true] at h ⊢; exact bef_asymm h
    · rw [if_neg e] at h
      rw [if_neg (Ne.symm e)]
      simp at h ⊢; omega
/-! the cheapest -/
structure BestIs (P : Prog) (l : List (List Int)) (σ : Bool × Int × List Int) : Prop where
  none : σ.1 = false → l = [] ∧ σ = (false, 0, [])
  mem : σ.1 = true → σ.2.2 ∈ l ∧ σ.2.1 = sumOf P.costs σ.2.2
  least : σ.1 = true → ∀ c ∈ l, σ.2.1 ≤ sumOf P.costs c
  first : σ.1 = true → ∃ l1 l2, l = l1 ++ σ.2.2 :: l2 ∧ ∀ c ∈ l1, σ.2.1 < sumOf P.costs c
theorem best_step {P : Prog} {l : List (List Int)} {σ : Bool × Int × List Int} (h : BestIs P l σ) (c : List Int) : BestIs P (l ++ [c]) (bestS P σ c) := by
  unfold bestS
  by_cases hs : σ.1 = false
  · rw [if_pos (.inl hs)]
    obtain ⟨rfl, -⟩ := h.none hs
    exact ⟨nofun, fun _ => ⟨by simp, rfl⟩, fun _ x hx => by simp at hx; subst hx; exact Int.le_refl _, fun _ => ⟨[], [], rfl, by simp⟩⟩
  · have ht : σ.1 = true := by simpa using hs
    by_cases hc : sumOf P.costs c < σ.2.1
    · rw [if_pos (.inr hc)]
      refine ⟨nofun, fun _ => ⟨by simp, rfl⟩, fun _ x hx => ?_, fun _ => ⟨l, [], rfl, fun x hx => ?_⟩⟩
      · rcases List.mem_append.1 hx with hx | hx
        · have := h.least ht x hx; show sumOf P.costs c ≤ _; omega
        · rw [List.mem_singleton.1 hx]; exact Int.le_refl _
      · have := h.least ht x hx; show sumOf P.costs c < _; omega
    · rw [if_neg (by simp [hs, hc])]
      refine ⟨fun e => absurd e hs, fun _ => ⟨by simp [(h.mem ht).1], (h.mem ht).2⟩, fun _ x hx => ?_, fun _ => ?_⟩
      · rcases List.mem_append.1 hx with hx | hx
        · exact h.least ht x hx
        · rw [List.mem_singleton.1 hx]; omega
      · obtain ⟨l1, l2, h1, h2⟩ := h.first ht
        exact ⟨l1, l2 ++ [c], by rw [h1]; simp, h2⟩
theorem best_fold {P : Prog} : ∀ (l2 l1 : List (List Int)) (σ : Bool × Int × List Int), BestIs P l1 σ → BestIs P (l1 ++ l2) (l2.foldl (bestS P) σ)
  | [], l1, σ, h => by simpa using h
  | c :: l2, l1, σ, h => by
    have := best_fold l2 (l1 ++ [c]) _ (best_step h c)
    simpa using this
theorem best_is (P : Prog) : BestIs P (allF P) (bestF P) := by
  have := best_fold (P := P) (allF P) [] (false, 0, []) ⟨fun _ => ⟨rfl, rfl⟩, nofun, nofun, nofun⟩
  simpa [bestF] using this
end Go.Proofs.Ytengafkfgcdpeaa
end

/- Layer 10: the closures of 'each' that add a row's coefficients and look at the sums. -/
section
namespace Go.Proofs.Ytengafkfgcdpeaa
set_option linter.unusedVariables false
set_option linter.unusedSimpArgs false
set_option linter.unnecessarySimpa false
set_option linter.unusedSectionVars false
set_option maxRecDepth 10000
open Go.RowKit
def plGL10a_0 : Plan := (.take 0 (.take 1 (.take 2 (.take 3 (.take 4 (.take 5 (.take 6 (.take 7 (.take 8 (.take 9 (.take 10 (.take 11 (.take 12 (.take 13 (.take 14 (.take 15 .done))))))))))))))))
def plGL10a_1 : Plan := (.take 0 (.take 1 (.take 2 (.take 4 (.take 5 (.alt 3 (.take 6 (.take 7 (.take 9 (.take 12 (.alt 8 (.take 10 (.alt 11 (.alt 13 (.take 14 (.take 15 .done)) .stop) (.alt 13 (.alt 11 (.take 14 (.take 15 .done)) .stop) .stop))) (.alt 13 (.alt 8 (.take 10 (.alt 11 (.take 14 (.take 15 .done)) .stop)) .stop) .stop)))))) .stop))))))
def plGL10a_2 : Plan := (.take 1 (.take 4 (.alt 0 (.take 2 (.alt 3 (.alt 5 (.take 6 (.take 7 (.take 9 (.take 12 (.alt 8 (.take 10 (.alt 11 (.alt 13 (.take 14 (.take 15 .done)) .stop) (.alt 13 (.alt 11 (.take 14 (.take 15 .done)) .stop) .stop))) (.alt 13 (.alt 8 (.take 10 (.alt 11 (.take 14 (.take 15 .done)) .stop)) .stop) .stop)))))) .stop) (.alt 5 (.alt 3 (.take 6 (.take 7 (.take 9 (.take 12 (.alt 8 (.take 10 (.alt 11 (.alt 13 (.take 14 (.take 15 .done)) .stop) (.alt 13 (.alt 11 (.take 14 (.take 15 .done)) .stop) .stop))) (.alt 13 (.alt 8 (.take 10 (.alt 11 (.take 14 (.take 15 .done)) .stop)) .stop) .stop)))))) .stop) .stop))) (.alt 5 (.alt 0 (.take 2 (.alt 3 (.take 6 (.take 7 (.take 9 (.take 12 (.alt 8 (.take 10 (.alt 11 (.alt 13 (.take 14 (.take 15 .done)) .stop) (.alt 13 (.alt 11 (.take 14 (.take 15 .done)) .stop) .stop))) (.alt 13 (.alt 8 (.take 10 (.alt 11 (.take 14 (.take 15 .done)) .stop)) .stop) .stop)))))) .stop)) .stop) .stop))))
def plGL10a_3 : Plan := (.take 0 (.take 1 (.take 2 (.take 3 (.take 4 (.take 5 (.take 6 (.take 7 (.take 8 (.take 9 (.take 10 (.take 11 (.take 12 (.altE 13 .done .stop))))))))))))))
def plGL10a_4 : Plan := (.take 0 (.take 1 (.take 2 (.take 4 (.take 5 (.take 6 (.take 7 (.take 8 (.alt 3 (.alt 9 (.take 10 (.take 11 (.take 12 (.altE 13 .done .stop)))) .stop) (.alt 9 (.take 10 (.alt 3 (.take 11 (.take 12 (.altE 13 .done .stop))) .stop)) .stop))))))))))
def plGL10a_5 : Plan := (.take 1 (.take 4 (.take 5 (.take 7 (.alt 0 (.take 2 (.alt 3 (.alt 6 (.take 8 (.alt 9 (.take 10 (.take 11 (.take 12 (.alt 13 .done .stop)))) .stop)) .stop) (.alt 6 (.take 8 (.alt 3 (.alt 9 (.take 10 (.take 11 (.take 12 (.alt 13 .done .stop)))) .stop) (.alt 9 (.take 10 (.alt 3 (.take 11 (.take 12 (.alt 13 .done .stop))) .stop)) .stop))) .stop))) (.alt 6 (.take 8 (.alt 0 (.take 2 (.alt 3 (.alt 9 (.take 10 (.take 11 (.take 12 (.alt 13 .done .stop)))) .stop) (.alt 9 (.take 10 (.alt 3 (.take 11 (.take 12 (.alt 13 .done .stop))) .stop)) .stop))) (.alt 9 (.take 10 (.alt 0 (.take 2 (.alt 3 (.take 11 (.take 12 (.alt 13 .done .stop))) .stop)) .stop)) .stop))) .stop))))))
def sumsOkB (rows : List Row) (xs : List Int) : Bool := (List.range rows.length).all fun k => decide ((rowAt rows k).least ≤ nth xs k) && decide (nth xs k ≤ (rowAt rows k).most)
theorem sumsOk_bad {rows : List Row} {xs : List Int} {k : Nat} (hk : k < rows.length) (h : ¬ ((rowAt rows k).least ≤ nth xs k ∧ nth xs k ≤ (rowAt rows k).most)) : sumsOkB rows xs = false := by
  rw [← Bool.not_eq_true, sumsOkB, List.all_eq_true]
  intro hh
  have := hh k (List.mem_range.2 hk)
  simp only [Bool.and_eq_true, decide_eq_true_eq] at this
  exact h this
theorem sumsOk_good {rows : List Row} {xs : List Int} (h : ∀ k, k < rows.length → (rowAt rows k).least ≤ nth xs k ∧ nth xs k ≤ (rowAt rows k).most) : sumsOkB rows xs = true := by
  rw [sumsOkB, List.all_eq_true]
  intro k hk
  simp only [Bool.and_eq_true, decide_eq_true_eq]
  exact h k (List.mem_range.1 hk)
set_option maxHeartbeats 2000000 in
theorem met_ok (P : Prog) (xs : List Int) (hl : xs.length = P.rows.length) (hr : P.rows.length ≤ 60) : Good Try.prog TT false 90 [.ref [ints P.costs, rowsV P.rows], .ref [ints xs]] (· = .bool (sumsOkB P.rows xs)) := by
  have LR : (P.rows.map encRow).length = P.rows.length := List.length_map ..
  have LX : (xs.map encI).length = xs.length := List.length_map ..
  refine good_of mixed tabOk Try.func90 rfl rfl Try.ntmps90 Try.results90 rfl rfl ?_
  (conv => whnf); (repeat' (first | (refine arith_i ⟨by omega, by omega⟩ ?_; conv => whnf) | (refine arith_u ⟨by omega, by omega⟩ ?_; conv => whnf) | (refine arith_8 ⟨by omega, by omega⟩ ?_; conv => whnf) | (refine need_i (by first | omega | (simp only [List.length_cons, List.length_nil]; omega) | (simp only [List.length_append, List.length_cons, List.length_nil, List.length_map, List.length_replicate, List.length_modify]; omega)) ?_; conv => whnf) | ((with_reducible refine branch_tt ?_); conv => whnf) | ((with_reducible refine branch_ff ?_); conv => whnf) | (with_reducible refine branch_not ?_) | ((with_reducible refine slc_e ?_); conv => whnf) | ((with_reducible refine callS_a ?_); conv => whnf) | ((with_reducible refine bld_a ?_); conv => whnf) | ((with_reducible refine own_e ?_); conv => whnf) | ((with_reducible refine mkmap_b ?_); conv => whnf) | (refine draw_i 16 plGL10a_0 (by decide +kernel) ?_; (conv => whnf); fail_if_success (guard_target =~ False)) | (refine draw_i 16 plGL10a_1 (by decide +kernel) ?_; (conv => whnf); fail_if_success (guard_target =~ False)) | (refine draw_i 16 plGL10a_2 (by decide +kernel) ?_; (conv => whnf); fail_if_success (guard_target =~ False)) | ((with_reducible refine And.intro ?_ ?_) <;> (conv => whnf)) | (with_reducible exact trivial) | ((with_reducible refine branch_d (fun hq => ?_) (fun hq => ?_)) <;> (try (exfalso; omega)) <;> (conv => whnf)) | ((with_reducible refine branch_e (fun hq => ?_) (fun hq => ?_)) <;> (try (exfalso; omega)) <;> (conv => whnf)) | ((with_reducible refine branch_n (fun hq => ?_) (fun hq => ?_)) <;> (try (exfalso; omega)) <;> (conv => whnf)) | ((with_reducible refine branch_i (fun hq => ?_) (fun hq => ?_)) <;> (try (exfalso; omega)) <;> (conv => whnf))))
  refine loop_i (fun k : Nat => k ≤ P.rows.length ∧ ∀ j, j < k → (rowAt P.rows j).least ≤ nth xs j ∧ nth xs j ≤ (rowAt P.rows j).most) (fun k => mkSt [(1, .ref [ints xs]), (6, rowsV P.rows), (7, .int .i64 (P.rows.map encRow).length), (8, .int .i64 k)] [] false) (fun k => P.rows.length - k) 0 ⟨Nat.zero_le _, nofun⟩ (le_mk (by repeat' (first | exact trivial | rfl | apply And.intro)) (by repeat' (first | exact trivial | rfl | apply And.intro)) rfl) ?_
  rintro k ⟨hk, hall⟩
  (conv => whnf); (repeat' (first | (refine arith_i ⟨by omega, by omega⟩ ?_; conv => whnf) | (refine arith_u ⟨by omega, by omega⟩ ?_; conv => whnf) | (refine arith_8 ⟨by omega, by omega⟩ ?_; conv => whnf) | (refine need_i (by first | omega | (simp only [List.length_cons, List.length_nil]; omega) | (simp only [List.length_append, List.length_cons, List.length_nil, List.length_map, List.length_replicate, List.length_modify]; omega)) ?_; conv => whnf) | ((with_reducible refine branch_tt ?_); conv => whnf) | ((with_reducible refine branch_ff ?_); conv => whnf) | (with_reducible refine branch_not ?_) | ((first | refine idx_cs (by assumption) ?_ | (refine idx_c (xs := P.rows) (by omega) fun r hrr => ?_; have hra := rowAt_eq hrr) | (refine idx_c (xs := xs) (by omega) fun x hx => ?_; have hxa := nth_eq hx)); conv => whnf) | ((with_reducible refine slc_e ?_); conv => whnf) | ((with_reducible refine callS_a ?_); conv => whnf) | ((with_reducible refine bld_a ?_); conv => whnf) | ((with_reducible refine own_e ?_); conv => whnf) | ((with_reducible refine mkmap_b ?_); conv => whnf) | (refine draw_i 16 plGL10a_0 (by decide +kernel) ?_; (conv => whnf); fail_if_success (guard_target =~ False)) | (refine draw_i 16 plGL10a_1 (by decide +kernel) ?_; (conv => whnf); fail_if_success (guard_target =~ False)) | (refine draw_i 16 plGL10a_2 (by decide +kernel) ?_; (conv => whnf); fail_if_success (guard_target =~ False)) | ((with_reducible refine And.intro ?_ ?_) <;> (conv => whnf)) | (with_reducible exact trivial) | ((with_reducible refine branch_d (fun hq => ?_) (fun hq => ?_)) <;> (try (exfalso; omega)) <;> (conv => whnf)) | ((with_reducible refine branch_e (fun hq => ?_) (fun hq => ?_)) <;> (try (exfalso; omega)) <;> (conv => whnf)) | ((with_reducible refine branch_n (fun hq => ?_) (fun hq => ?_)) <;> (try (exfalso; omega)) <;> (conv => whnf)) | ((with_reducible refine branch_i (fun hq => ?_) (fun hq => ?_)) <;> (try (exfalso; omega)) <;> (conv => whnf))))
  all_goals first
    | (refine ret_p rfl (bool_eq ?_); symm; exact sumsOk_bad (k := k) (by omega) (by rw [hra, hxa]; omega))
    | (refine ⟨k + 1, ⟨by omega, fun j hj => ?_⟩, (le_mk (by repeat' (first | exact trivial | rfl | apply And.intro)) (by repeat' (first | exact trivial | rfl | apply And.intro)) rfl), by omega⟩
       by_cases e : j = k
       · subst e; rw [hra, hxa]; omega
       · exact hall j (by omega))
    | (refine ret_p rfl (bool_eq ?_); symm; exact sumsOk_good fun j hj => hall j (by omega))
def addF (rows : List Row) (xs : List Int) (o t : Int) : List Int := (List.range xs.length).map fun j => nth xs j + t * nth (rowAt rows j).coefs o.toNat
theorem addF_len {rows : List Row} {xs : List Int} {o t : Int} : (addF rows xs o t).length = xs.length := by simp [addF]
theorem addF_nth {rows : List Row} {xs : List Int} {o t : Int} {j : Nat} (h : j < xs.length) : nth (addF rows xs o t) j = nth xs j + t * nth (rowAt rows j).coefs o.toNat := by
  simp [addF, nth, List.getD_eq_getElem?_getD, h]
set_option maxHeartbeats 2000000 in
theorem add_ok (P : Prog) (xs : List Int) (o t : Int) (hv : validB P = true) (ho : 0 ≤ o ∧ o < P.costs.length) (ht : t = 1 ∨ t = -1) (hx : ∀ j, j < xs.length → -1000000 ≤ nth xs j ∧ nth xs j ≤ 1000000) (hl : xs.length = P.rows.length) : GoodM Try.prog TT false 89 [.int .i64 o, .int .i64 t, .ptr 1000 0, .ptr 1001 0] [(1000, [ints P.costs, rowsV P.rows]), (1001, [.own 1101 3 1 (xs.map encI)])]
    (fun r ov bx => r = .tup [] ∧ ov = [] ∧ bx = [(1000, [ints P.costs, rowsV P.rows]), (1001, [.own 1101 3 1 ((addF P.rows xs o t).map encI)])]) := by
  have LR : (P.rows.map encRow).length = P.rows.length := List.length_map ..
  have hr := (validB_parts hv).2.1
  refine good_of_m (fun _ => false) mixed tabOk Try.func89 rfl rfl Try.ntmps89 Try.results89 rfl rfl ?_
  (conv => whnf); (repeat' (first | (refine arith_i ⟨by omega, by omega⟩ ?_; conv => whnf) | (refine arith_u ⟨by omega, by omega⟩ ?_; conv => whnf) | (refine arith_8 ⟨by omega, by omega⟩ ?_; conv => whnf) | (refine need_i (by first | omega | (simp only [List.length_cons, List.length_nil]; omega) | (simp only [List.length_append, List.length_cons, List.length_nil, List.length_map, List.length_replicate, List.length_modify]; omega)) ?_; conv => whnf) | ((with_reducible refine branch_tt ?_); conv => whnf) | ((with_reducible refine branch_ff ?_); conv => whnf) | (with_reducible refine branch_not ?_) | ((with_reducible refine slc_e ?_); conv => whnf) | ((with_reducible refine callS_a ?_); conv => whnf) | ((with_reducible refine bld_a ?_); conv => whnf) | ((with_reducible refine own_e ?_); conv => whnf) | ((with_reducible refine mkmap_b ?_); conv => whnf) | (refine draw_i 14 plGL10a_3 (by decide +kernel) ?_; (conv => whnf); fail_if_success (guard_target =~ False)) | (refine draw_i 14 plGL10a_4 (by decide +kernel) ?_; (conv => whnf); fail_if_success (guard_target =~ False)) | (refine draw_i 13 plGL10a_5 (by decide +kernel) ?_; (conv => whnf); fail_if_success (guard_target =~ False)) | ((with_reducible refine And.intro ?_ ?_) <;> (conv => whnf)) | (with_reducible exact trivial) | ((with_reducible refine branch_d (fun hq => ?_) (fun hq => ?_)) <;> (try (exfalso; omega)) <;> (conv => whnf)) | ((with_reducible refine branch_e (fun hq => ?_) (fun hq => ?_)) <;> (try (exfalso; omega)) <;> (conv => whnf)) | ((with_reducible refine branch_n (fun hq => ?_) (fun hq => ?_)) <;> (try (exfalso; omega)) <;> (conv => whnf)) | ((with_reducible refine branch_i (fun hq => ?_) (fun hq => ?_)) <;> (try (exfalso; omega)) <;> (conv => whnf))))
  refine loop_i2 (fun (k : Nat) (ys : List Int) => k ≤ P.rows.length ∧ ys.length = xs.length ∧ (∀ j, j < k → nth ys j = nth xs j + t * nth (rowAt P.rows j).coefs o.toNat) ∧ ∀ j, k ≤ j → nth ys j = nth xs j) (fun k ys => mkSt [(0, .int .i64 o), (1, .int .i64 t), (3, .ptr 1001 0), (9, rowsV P.rows), (10, .int .i64 (P.rows.map encRow).length), (11, .int .i64 k)] [(1000, [ints P.costs, rowsV P.rows]), (1001, [.own 1101 3 1 (ys.map encI)])] false) (fun k _ => P.rows.length - k) 0 xs ⟨Nat.zero_le _, rfl, nofun, fun _ _ => rfl⟩ (le_mk (by repeat' (first | exact trivial | rfl | apply And.intro)) (by repeat' (first | exact trivial | rfl | apply And.intro)) rfl) ?_
  rintro k ys ⟨hk, hyl, hd, hn⟩
  have LY : (ys.map encI).length = ys.length := List.length_map ..
  (conv => whnf); (repeat' (first | (refine arith_i ⟨by omega, by omega⟩ ?_; conv => whnf) | (refine arith_u ⟨by omega, by omega⟩ ?_; conv => whnf) | (refine arith_8 ⟨by omega, by omega⟩ ?_; conv => whnf) | (refine need_i (by first | omega | (simp only [List.length_cons, List.length_nil]; omega) | (simp only [List.length_append, List.length_cons, List.length_nil, List.length_map, List.length_replicate, List.length_modify]; omega)) ?_; conv => whnf) | ((with_reducible refine branch_tt ?_); conv => whnf) | ((with_reducible refine branch_ff ?_); conv => whnf) | (with_reducible refine branch_not ?_) | ((first | refine idx_cs (by assumption) ?_ | (refine idx_c (xs := P.rows) (by omega) fun r hrr => ?_; have hra := rowAt_eq hrr; have hvr := valid_rows hv (List.mem_of_getElem? hrr); have LC : (r.coefs.map encI).length = r.coefs.length := List.length_map ..) | (refine idx_c (xs := ys) (by omega) fun y hy => ?_; have hya := nth_eq hy; have hyb := hn k (Nat.le_refl _); have hxb := hx k (by omega)) | (refine idx_m (xs := r.coefs) (by omega) (by omega) fun c hc => ?_; have hca := nth_eq hc; have hcb := hvr.2.1 o.toNat (by omega); have hm : t * c = c ∨ t * c = -c := by {rcases ht with e | e <;> subst e <;> omega})); conv => whnf) | ((with_reducible refine slc_e ?_); conv => whnf) | ((with_reducible refine callS_a ?_); conv => whnf) | ((with_reducible refine bld_a ?_); conv => whnf) | ((with_reducible refine own_e ?_); conv => whnf) | ((with_reducible refine mkmap_b ?_); conv => whnf) | (refine draw_i 14 plGL10a_4 (by decide +kernel) ?_; (conv => whnf); fail_if_success (guard_target =~ False)) | (refine draw_i 13 plGL10a_5 (by decide +kernel) ?_; (conv => whnf); fail_if_success (guard_target =~ False)) | (refine draw_i 14 plGL10a_3 (by decide +kernel) ?_; (conv => whnf); fail_if_success (guard_target =~ False)) | ((with_reducible refine And.intro ?_ ?_) <;> (conv => whnf)) | (with_reducible exact trivial) | ((with_reducible refine branch_d (fun hq => ?_) (fun hq => ?_)) <;> (try (exfalso; omega)) <;> (conv => whnf)) | ((with_reducible refine branch_e (fun hq => ?_) (fun hq => ?_)) <;> (try (exfalso; omega)) <;> (conv => whnf)) | ((with_reducible refine branch_n (fun hq => ?_) (fun hq => ?_)) <;> (try (exfalso; omega)) <;> (conv => whnf)) | ((with_reducible refine branch_i (fun hq => ?_) (fun hq => ?_)) <;> (try (exfalso; omega)) <;> (conv => whnf))))
  all_goals first
    | (obtain rfl : ys = addF P.rows xs o t := nth_ext (by rw [addF_len]; exact hyl) fun j hj => by rw [hd j (by omega), addF_nth (by omega)]
       exact retM_i (.tup []) [] [(1000, [ints P.costs, rowsV P.rows]), (1001, [.own 1101 3 1 ((addF P.rows xs o t).map encI)])] rfl (le_mk (by repeat' (first | exact trivial | rfl | apply And.intro)) (by repeat' (first | exact trivial | rfl | apply And.intro)) rfl) rfl ⟨rfl, rfl, rfl⟩)
    | (refine ⟨k + 1, ys.set k (y + t * c), ⟨by omega, by simp; exact hyl, fun j hj => ?_, fun j hj => ?_⟩, le_mk ⟨rfl, rfl, rfl, rfl, rfl, rfl, trivial⟩ ⟨rfl, by rw [← encI_set]; rfl, trivial⟩ rfl, by omega⟩
       · rw [nth_set]
         by_cases e : j = k
         · subst e
           rw [if_pos ⟨rfl, by omega⟩, hra, hca, ← hya, hyb]
         · rw [if_neg (fun h => e h.1)]; exact hd j (by omega)
       · rw [nth_set, if_neg (fun h => by omega)]; exact hn j (by omega))
end Go.Proofs.Ytengafkfgcdpeaa
end

/- slices.Repeat, bits.Mul with small numbers. -/
section
namespace Go.Proofs.Ytengafkfgcdpeaa
set_option linter.unusedVariables false
set_option linter.unusedSimpArgs false
set_option linter.unnecessarySimpa false
set_option linter.unusedSectionVars false
set_option maxRecDepth 10000
open Go.RowKit
def plGL09rep_0 : Plan := (.take 0 (.take 1 (.take 2 (.take 4 (.take 5 (.alt 3 (.alt 6 (.alt 7 (.take 8 (.take 9 .done)) .stop) .stop) (.alt 6 (.alt 3 (.alt 7 (.take 8 (.take 9 .done)) .stop) .stop) .stop)))))))
theorem and_mask {n : Int} (h : 0 ≤ n ∧ n ≤ 1000) : IntKind.wrap .u64 ((BitVec.ofInt IntKind.u64.bits n &&& BitVec.ofInt IntKind.u64.bits 4294967295).toNat : Int) = n := by
  obtain ⟨m, rfl⟩ : ∃ m : Nat, n = m := ⟨n.toNat, by omega⟩
  have hm : m ≤ 1000 := by omega
  have e1 : (BitVec.ofInt IntKind.u64.bits (m : Int)).toNat = m := by
    show (BitVec.ofInt 64 (m : Int)).toNat = m
    rw [BitVec.toNat_ofInt]; omega
  have e2 : (BitVec.ofInt IntKind.u64.bits 4294967295).toNat = 2 ^ 32 - 1 := by decide
  rw [BitVec.toNat_and, e1, e2, Nat.and_two_pow_sub_one_eq_mod, Nat.mod_eq_of_lt (by omega)]
  show ((m : Int) % 18446744073709551616) = m
  omega
theorem shr32 {n : Int} (h : 0 ≤ n ∧ n ≤ 1000) : n.fdiv (2 ^ min (32 : Int).toNat IntKind.u64.bits) = 0 := by
  show n.fdiv 4294967296 = 0
  rw [Int.fdiv_eq_ediv_of_nonneg _ (by omega)]
  omega
theorem mul64_ok (n : Int) (h : 0 ≤ n ∧ n ≤ 1000) : Good Try.prog TT false 126 [.int .u64 1, .int .u64 n] (· = .tup [.int .u64 0, .int .u64 n]) := by
  have a1 := and_mask (n := 1) (by omega)
  have a0 := and_mask (n := 0) (by omega)
  have an := and_mask h
  have s1 := shr32 (n := 1) (by omega)
  have s0 := shr32 (n := 0) (by omega)
  have sn := shr32 h
  refine good_of mixed tabOk Try.func126 rfl rfl Try.ntmps126 Try.results126 rfl rfl ?_
  (conv => whnf); (repeat' (first | (refine arith_i ⟨by omega, by omega⟩ ?_; conv => whnf) | (refine arith_u ⟨by omega, by omega⟩ ?_; conv => whnf) | (refine arith_8 ⟨by omega, by omega⟩ ?_; conv => whnf) | (refine need_i (by first | omega | (simp only [List.length_cons, List.length_nil]; omega) | (simp only [List.length_append, List.length_cons, List.length_nil, List.length_map, List.length_replicate, List.length_modify]; omega)) ?_; conv => whnf) | ((with_reducible refine branch_tt ?_); conv => whnf) | ((with_reducible refine branch_ff ?_); conv => whnf) | (with_reducible refine branch_not ?_) | ((simp only [a1, a0, an, s1, s0, sn, Int.one_mul, Int.zero_mul, Int.mul_zero, Int.add_zero, Int.zero_add]); conv => whnf) | ((with_reducible refine slc_e ?_); conv => whnf) | ((with_reducible refine callS_a ?_); conv => whnf) | ((with_reducible refine bld_a ?_); conv => whnf) | ((with_reducible refine own_e ?_); conv => whnf) | ((with_reducible refine mkmap_b ?_); conv => whnf) | ((with_reducible refine branch_d (fun hq => ?_) (fun hq => ?_)) <;> (try (exfalso; omega)) <;> (conv => whnf)) | ((with_reducible refine branch_e (fun hq => ?_) (fun hq => ?_)) <;> (try (exfalso; omega)) <;> (conv => whnf)) | ((with_reducible refine branch_n (fun hq => ?_) (fun hq => ?_)) <;> (try (exfalso; omega)) <;> (conv => whnf)) | ((with_reducible refine branch_i (fun hq => ?_) (fun hq => ?_)) <;> (try (exfalso; omega)) <;> (conv => whnf))))
  exact ret_t (rs := [.int .u64 0, .int .u64 n]) ⟨(rc_p rfl).g, (rc_p rfl).g, trivial⟩ rfl
theorem mul_ok (n : Int) (h : 0 ≤ n ∧ n ≤ 1000) : Good Try.prog TT false 115 [.int .u64 1, .int .u64 n] (· = .tup [.int .u64 0, .int .u64 n]) := by
  refine good_of mixed tabOk Try.func115 rfl rfl Try.ntmps115 Try.results115 rfl rfl ?_
  (conv => whnf); (repeat' (first | (refine arith_i ⟨by omega, by omega⟩ ?_; conv => whnf) | (refine arith_u ⟨by omega, by omega⟩ ?_; conv => whnf) | (refine arith_8 ⟨by omega, by omega⟩ ?_; conv => whnf) | (refine need_i (by first | omega | (simp only [List.length_cons, List.length_nil]; omega) | (simp only [List.length_append, List.length_cons, List.length_nil, List.length_map, List.length_replicate, List.length_modify]; omega)) ?_; conv => whnf) | ((with_reducible refine branch_tt ?_); conv => whnf) | ((with_reducible refine branch_ff ?_); conv => whnf) | (with_reducible refine branch_not ?_) | ((refine call_e (mul64_ok n h) ?_); conv => whnf) | ((with_reducible refine slc_e ?_); conv => whnf) | ((with_reducible refine callS_a ?_); conv => whnf) | ((with_reducible refine bld_a ?_); conv => whnf) | ((with_reducible refine own_e ?_); conv => whnf) | ((with_reducible refine mkmap_b ?_); conv => whnf) | ((with_reducible refine branch_d (fun hq => ?_) (fun hq => ?_)) <;> (try (exfalso; omega)) <;> (conv => whnf)) | ((with_reducible refine branch_e (fun hq => ?_) (fun hq => ?_)) <;> (try (exfalso; omega)) <;> (conv => whnf)) | ((with_reducible refine branch_n (fun hq => ?_) (fun hq => ?_)) <;> (try (exfalso; omega)) <;> (conv => whnf)) | ((with_reducible refine branch_i (fun hq => ?_) (fun hq => ?_)) <;> (try (exfalso; omega)) <;> (conv => whnf))))
  exact ret_t (rs := [.int .u64 0, .int .u64 n]) ⟨(rc_p rfl).g, (rc_p rfl).g, trivial⟩ rfl
def repC (k n : Nat) : List (List AV) := List.replicate k [AV.int .i64 (-1)] ++ List.replicate (n - k) [AV.int .i64 0]
theorem repC_len {k n : Nat} (h : k ≤ n) : (repC k n).length = n := by simp [repC]; omega
theorem repC_take {k n : Nat} : (repC k n).take k = List.replicate k [AV.int .i64 (-1)] := by simp [repC]
theorem repC_spl {k n m : Nat} (h : k + m ≤ n) (hm : m ≤ k) : spl (repC k n) k ((List.replicate k [AV.int .i64 (-1)]).take m) = repC (k + m) n := by
  have e1 : (List.replicate k [AV.int .i64 (-1)]).take m = List.replicate m [AV.int .i64 (-1)] := by rw [List.take_replicate, Nat.min_eq_left hm]
  have e2 : (repC k n).drop (k + m) = List.replicate (n - (k + m)) [AV.int .i64 0] := by
    rw [repC, List.drop_append, List.length_replicate, List.drop_of_length_le (by simp), List.nil_append, List.drop_replicate]
    congr 1
    omega
  rw [spl, repC_take, e1, List.length_replicate, e2, ← List.append_assoc, List.replicate_append_replicate]
  rfl
theorem repC_first {n : Nat} (h : 0 < n) : spl (List.replicate n [AV.int .i64 0]) 0 ([[AV.int .i64 (-1)]].take n) = repC 1 n := by
  obtain ⟨m, rfl⟩ : ∃ m, n = m + 1 := ⟨n - 1, by omega⟩
  simp [spl, repC, List.replicate_succ]
theorem sub_lo {k n : Nat} {K : List (List AV) → Prop} (h : k ≤ n) (hK : K (List.replicate (n - k) [AV.int .i64 0])) : sub (repC k n) (k : Int) ((repC k n).length : Int) K := by
  have L := repC_len h
  refine sub_i ⟨by omega, by omega, by omega⟩ ?_
  have e : ((repC k n).take ((repC k n).length : Int).toNat).drop (k : Int).toNat = List.replicate (n - k) [AV.int .i64 0] := by
    rw [Int.toNat_natCast, Int.toNat_natCast, List.take_length, repC, List.drop_append]; simp
  rw [e]; exact hK
theorem sub_hi {k n : Nat} {K : List (List AV) → Prop} (h : k ≤ n) (hK : K (List.replicate k [AV.int .i64 (-1)])) : sub (repC k n) 0 (k : Int) K := by
  have L := repC_len h
  refine sub_i ⟨by omega, by omega, by omega⟩ ?_
  have e : ((repC k n).take (k : Int).toNat).drop (0 : Int).toNat = List.replicate k [AV.int .i64 (-1)] := by
    rw [Int.toNat_natCast, repC_take]; simp
  rw [e]; exact hK
theorem repC_full (n : Nat) : repC n n = (List.replicate n (-1 : Int)).map encI := by simp [repC, encI]
theorem repeat_ok (n : Nat) (hn : n ≤ 12) : Good Try.prog TT false 92 [ints [-1], .int .i64 n] (· = .own 0 3 1 ((List.replicate n (-1 : Int)).map encI)) := by
  have L1 : (List.map encI [-1]).length = 1 := rfl
  have LR : (List.replicate (n : Int).toNat [AV.int .i64 0]).length = n := by simp
  have eN : (n : Int).toNat = n := by omega
  refine good_of mixed tabOk Try.func92 rfl rfl Try.ntmps92 Try.results92 rfl rfl ?_
  (conv => whnf); (repeat' (first | (refine arith_i ⟨by omega, by omega⟩ ?_; conv => whnf) | (refine arith_u ⟨by omega, by omega⟩ ?_; conv => whnf) | (refine arith_8 ⟨by omega, by omega⟩ ?_; conv => whnf) | (refine need_i (by first | omega | (simp only [List.length_cons, List.length_nil]; omega) | (simp only [List.length_append, List.length_cons, List.length_nil, List.length_map, List.length_replicate, List.length_modify]; omega)) ?_; conv => whnf) | ((with_reducible refine branch_tt ?_); conv => whnf) | ((with_reducible refine branch_ff ?_); conv => whnf) | (with_reducible refine branch_not ?_) | ((refine call_e (mul_ok n (by omega)) ?_); conv => whnf) | ((with_reducible refine slc_e ?_); conv => whnf) | ((with_reducible refine callS_a ?_); conv => whnf) | ((with_reducible refine bld_a ?_); conv => whnf) | ((with_reducible refine own_e ?_); conv => whnf) | ((with_reducible refine mkmap_b ?_); conv => whnf) | (refine draw_i 10 plGL09rep_0 (by decide +kernel) ?_; (conv => whnf); fail_if_success (guard_target =~ False)) | ((with_reducible refine And.intro ?_ ?_) <;> (conv => whnf)) | (with_reducible exact trivial) | ((with_reducible refine branch_d (fun hq => ?_) (fun hq => ?_)) <;> (try (exfalso; omega)) <;> (conv => whnf)) | ((with_reducible refine branch_e (fun hq => ?_) (fun hq => ?_)) <;> (try (exfalso; omega)) <;> (conv => whnf)) | ((with_reducible refine branch_n (fun hq => ?_) (fun hq => ?_)) <;> (try (exfalso; omega)) <;> (conv => whnf)) | ((with_reducible refine branch_i (fun hq => ?_) (fun hq => ?_)) <;> (try (exfalso; omega)) <;> (conv => whnf))))
  · refine loop_i (fun k : Nat => 1 ≤ k ∧ k ≤ n) (fun k => mkSt [(7, .own 30 3 1 (repC k n)), (8, .int .i64 k)] [] false) (fun k => n - k) 1 ⟨by omega, by omega⟩ (le_mk ⟨?_, int_eq (by rw [L1, LR]; omega), trivial⟩ trivial rfl) ?_
    · rw [← repC_first (by omega)]
      conv => rhs; rw [← eN]
      show AV.own 30 3 1 (spl (List.replicate (n : Int).toNat [AV.int .i64 0]) 0 ((List.map encI [-1]).take (List.replicate (n : Int).toNat [AV.int .i64 0]).length)) = _
      rw [LR, eN]; rfl
    rintro k ⟨h1, h2⟩
    have LC := repC_len h2
    have LZ : (List.replicate (n - k) [AV.int .i64 0]).length = n - k := by simp
    have LA : (List.replicate k [AV.int .i64 (-1)]).length = k := by simp
    (conv => whnf); (repeat' (first | (refine arith_i ⟨by omega, by omega⟩ ?_; conv => whnf) | (refine arith_u ⟨by omega, by omega⟩ ?_; conv => whnf) | (refine arith_8 ⟨by omega, by omega⟩ ?_; conv => whnf) | (refine need_i (by first | omega | (simp only [List.length_cons, List.length_nil]; omega) | (simp only [List.length_append, List.length_cons, List.length_nil, List.length_map, List.length_replicate, List.length_modify]; omega)) ?_; conv => whnf) | ((with_reducible refine branch_tt ?_); conv => whnf) | ((with_reducible refine branch_ff ?_); conv => whnf) | (with_reducible refine branch_not ?_) | ((refine slc_w ?_); conv => whnf) | ((refine sub_lo h2 ?_); conv => whnf) | ((refine sub_hi h2 ?_); conv => whnf) | ((with_reducible refine slc_e ?_); conv => whnf) | ((with_reducible refine callS_a ?_); conv => whnf) | ((with_reducible refine bld_a ?_); conv => whnf) | ((with_reducible refine own_e ?_); conv => whnf) | ((with_reducible refine mkmap_b ?_); conv => whnf) | (refine draw_i 10 plGL09rep_0 (by decide +kernel) ?_; (conv => whnf); fail_if_success (guard_target =~ False)) | ((with_reducible refine And.intro ?_ ?_) <;> (conv => whnf)) | (with_reducible exact trivial) | ((with_reducible refine branch_d (fun hq => ?_) (fun hq => ?_)) <;> (try (exfalso; omega)) <;> (conv => whnf)) | ((with_reducible refine branch_e (fun hq => ?_) (fun hq => ?_)) <;> (try (exfalso; omega)) <;> (conv => whnf)) | ((with_reducible refine branch_n (fun hq => ?_) (fun hq => ?_)) <;> (try (exfalso; omega)) <;> (conv => whnf)) | ((with_reducible refine branch_i (fun hq => ?_) (fun hq => ?_)) <;> (try (exfalso; omega)) <;> (conv => whnf))))
    all_goals first
      | (refine ⟨k + min k (n - k), ⟨by omega, by omega⟩, le_mk ⟨?_, int_eq (by rw [LZ, LA]; omega), trivial⟩ trivial rfl, by omega⟩
         rw [← repC_spl (m := min k (n - k)) (by omega) (by omega)]
         show AV.own 30 3 1 (spl (repC k n) (k : Int).toNat ((List.replicate k [AV.int .i64 (-1)]).take (List.replicate (n - k) [AV.int .i64 0]).length)) = _
         rw [LZ, Int.toNat_natCast, show (List.replicate k [AV.int .i64 (-1)]).take (n - k) = (List.replicate k [AV.int .i64 (-1)]).take (min k (n - k)) by rw [List.take_replicate, List.take_replicate]; congr 1; omega])
      | (have hk : k = n := by omega
         subst hk
         exact ret_o (by rw [repC_full]))
  · have h0 : n = 0 := by omega
    subst h0
    refine loop_i (fun _ : Unit => True) (fun _ => mkSt [(7, .own 30 3 1 []), (8, .int .i64 0)] [] false) (fun _ => 0) () trivial (le_mk (by repeat' (first | exact trivial | rfl | apply And.intro)) (by repeat' (first | exact trivial | rfl | apply And.intro)) rfl) ?_
    intro _ _
    have L0 : ([] : List (List AV)).length = 0 := rfl
    (conv => whnf); (repeat' (first | (refine arith_i ⟨by omega, by omega⟩ ?_; conv => whnf) | (refine arith_u ⟨by omega, by omega⟩ ?_; conv => whnf) | (refine arith_8 ⟨by omega, by omega⟩ ?_; conv => whnf) | (refine need_i (by first | omega | (simp only [List.length_cons, List.length_nil]; omega) | (simp only [List.length_append, List.length_cons, List.length_nil, List.length_map, List.length_replicate, List.length_modify]; omega)) ?_; conv => whnf) | ((with_reducible refine branch_tt ?_); conv => whnf) | ((with_reducible refine branch_ff ?_); conv => whnf) | (with_reducible refine branch_not ?_) | ((with_reducible refine slc_e ?_); conv => whnf) | ((with_reducible refine callS_a ?_); conv => whnf) | ((with_reducible refine bld_a ?_); conv => whnf) | ((with_reducible refine own_e ?_); conv => whnf) | ((with_reducible refine mkmap_b ?_); conv => whnf) | (refine draw_i 10 plGL09rep_0 (by decide +kernel) ?_; (conv => whnf); fail_if_success (guard_target =~ False)) | ((with_reducible refine And.intro ?_ ?_) <;> (conv => whnf)) | (with_reducible exact trivial) | ((with_reducible refine branch_d (fun hq => ?_) (fun hq => ?_)) <;> (try (exfalso; omega)) <;> (conv => whnf)) | ((with_reducible refine branch_e (fun hq => ?_) (fun hq => ?_)) <;> (try (exfalso; omega)) <;> (conv => whnf)) | ((with_reducible refine branch_n (fun hq => ?_) (fun hq => ?_)) <;> (try (exfalso; omega)) <;> (conv => whnf)) | ((with_reducible refine branch_i (fun hq => ?_) (fun hq => ?_)) <;> (try (exfalso; omega)) <;> (conv => whnf))))
    exact ret_o rfl
end Go.Proofs.Ytengafkfgcdpeaa
end

/- Layer 9, the reference by the interpreter: row, Bound, leaf. -/
section
namespace Go.Proofs.Ytengafkfgcdpeaa
set_option linter.unusedVariables false
set_option linter.unusedSimpArgs false
set_option linter.unnecessarySimpa false
set_option linter.unusedSectionVars false
set_option maxRecDepth 10000
open Go.RowKit

def rowOk9 (rows : Nat) (n : Nd) : Bool := decide ((n.row = -1 ∧ n.num = 0 ∧ n.den = 1) ∨ (n.row ≠ -1 ∧ 0 ≤ n.row ∧ n.row < rows ∧ -10000 ≤ n.num ∧ n.num ≤ 10000 ∧ 1 ≤ n.den ∧ n.den ≤ 10000))
theorem bnd_row (rows : Nat) (n : Nd) : bndB rows n = (decide (n.kind = 3) && rowOk9 rows n) := by
  rw [Bool.eq_iff_iff]
  unfold bndB rowOk9
  split <;> simp <;> omega
theorem repl_enc (n : Nat) : List.replicate n [AV.int .i64 0] = (List.replicate n (0 : Int)).map encI := by simp [encI]
end Go.Proofs.Ytengafkfgcdpeaa
end

/- Layer 9: the generator of programs, also with a mistake. -/
section
namespace Go.Proofs.Ytengafkfgcdpeaa
set_option linter.unusedVariables false
set_option linter.unusedSimpArgs false
set_option linter.unnecessarySimpa false
set_option linter.unusedSectionVars false
set_option maxRecDepth 10000
open Go.RowKit
def costL : List Int := [0, 1, 2, 3, 5, 7, 10000]
def coefL : List Int := [0, 1, 1, 2, 3, -1, -2, 4]
def RowG (n : Nat) (r : Row) : Prop := r.coefs.length = n ∧ (∀ x ∈ r.coefs, x ∈ coefL) ∧ (-2 ≤ r.least ∧ r.least ≤ 4) ∧ (2 ≤ r.most ∧ r.most ≤ 9)
structure ProgG (m : Int) (P : Prog) : Prop where
  len : (P.costs.length : Int) ≤ m
  cost : ∀ x ∈ P.costs, x ∈ costL
  rows : P.rows.length ≤ 3
  row : ∀ r ∈ P.rows, RowG P.costs.length r
/-- Any program that the tape makes: small. -/
def Small (P : Prog) : Prop := P.costs.length ≤ 100 ∧ P.rows.length ≤ 10 ∧ ∀ r ∈ P.rows, r.coefs.length ≤ 100
theorem box_snoc {α : Type} {enc : α → List AV} {t : Tg} {e z : Nat} {xs : List α} (pre post : List AV) (x : α) : some (pre ++ AV.own t e z (xs.map enc ++ [enc x]) :: post) = some (pre ++ AV.own t e z ((xs ++ [x]).map enc) :: post) := by simp
theorem snoc_in {α : Type} {p : α → Prop} {xs : List α} {x : α} (h : ∀ y ∈ xs, p y) (hx : p x) : ∀ y ∈ xs ++ [x], p y := fun y hy => by
  rcases List.mem_append.1 hy with h' | h'
  · exact h y h'
  · obtain rfl := List.mem_singleton.1 h'
    exact hx
end Go.Proofs.Ytengafkfgcdpeaa
end

/- Layer 9: the generators Bent, Leaf, State. -/
section
namespace Go.Proofs.Ytengafkfgcdpeaa
set_option linter.unusedVariables false
set_option linter.unusedSimpArgs false
set_option linter.unnecessarySimpa false
set_option linter.unusedSectionVars false
set_option maxRecDepth 10000
open Go.RowKit
theorem map_modify {α : Type} {enc : α → List AV} {f : List AV → List AV} {g : α → α} (h : ∀ x, f (enc x) = enc (g x)) : ∀ (l : List α) (i : Nat), (l.map enc).modify i f = (l.modify i g).map enc
  | [], i => by simp
  | x :: l, 0 => by simp [List.modify_zero_cons, h]
  | x :: l, i + 1 => by simp only [List.map_cons, List.modify_succ_cons, map_modify h l i]
/-- What the tape makes a leaf: a dead row, or some bound. -/
def LeafG (P : Prog) (st : List Int) (n : Nd) : Prop := (n.kind = 2 ∧ n.row = deadF P st ∧ 0 ≤ deadF P st) ∨ n.kind = 3
end Go.Proofs.Ytengafkfgcdpeaa
end

/- Layer 9: States. -/
section
namespace Go.Proofs.Ytengafkfgcdpeaa
set_option linter.unusedVariables false
set_option linter.unusedSimpArgs false
set_option linter.unnecessarySimpa false
set_option linter.unusedSectionVars false
set_option maxRecDepth 10000
open Go.RowKit
def plGL09h_0 : Plan := (.take 0 (.take 1 (.take 3 (.take 4 (.take 5 (.alt 2 (.alt 6 (.take 7 (.altE 8 (.take 9 (.altE 10 .done .stop)) .stop)) .stop) .stop))))))
def plGL09h_1 : Plan := (.take 0 (.take 3 (.alt 1 (.alt 2 (.alt 4 (.take 5 (.alt 6 (.take 7 (.alt 8 (.take 9 (.alt 10 .done .stop)) .stop)) .stop)) .stop) (.alt 4 (.take 5 (.alt 2 (.alt 6 (.take 7 (.alt 8 (.take 9 (.alt 10 .done .stop)) .stop)) .stop) .stop)) .stop)) (.alt 2 (.alt 1 (.alt 4 (.take 5 (.alt 6 (.take 7 (.alt 8 (.take 9 (.alt 10 .done .stop)) .stop)) .stop)) .stop) (.alt 4 (.take 5 (.alt 1 (.alt 6 (.take 7 (.alt 8 (.take 9 (.alt 10 .done .stop)) .stop)) .stop) (.alt 6 (.take 7 (.alt 1 (.alt 8 (.take 9 (.alt 10 .done .stop)) .stop) (.alt 8 (.alt 1 (.take 9 (.alt 10 .done .stop)) .stop) .stop))) .stop))) .stop)) (.alt 4 (.take 5 (.alt 1 (.alt 2 (.alt 6 (.take 7 (.alt 8 (.take 9 (.alt 10 .done .stop)) .stop)) .stop) .stop) (.alt 2 (.alt 1 (.alt 6 (.take 7 (.alt 8 (.take 9 (.alt 10 .done .stop)) .stop)) .stop) (.alt 6 (.take 7 (.alt 1 (.alt 8 (.take 9 (.alt 10 .done .stop)) .stop) (.alt 8 (.alt 1 (.take 9 (.alt 10 .done .stop)) .stop) .stop))) .stop)) .stop))) .stop)))))
def plGL09h_2 : Plan := (.take 0 (.take 1 (.take 2 (.take 3 (.take 4 (.take 5 (.take 6 (.take 7 (.take 8 (.take 9 (.take 10 (.take 11 (.take 12 (.take 13 (.take 14 (.take 15 (.take 16 (.take 17 (.take 18 (.take 19 (.take 20 (.take 21 .done))))))))))))))))))))))
def plGL09h_3 : Plan := (.take 0 (.take 1 (.take 2 (.take 3 (.take 4 (.take 5 (.take 6 (.take 7 (.take 8 (.take 9 (.take 10 (.take 11 (.take 12 (.take 13 (.take 14 (.take 16 (.take 17 (.alt 15 (.take 18 (.alt 19 (.take 20 (.take 21 .done)) .stop)) .stop))))))))))))))))))
def plGL09h_4 : Plan := (.take 0 (.alt 1 (.take 2 (.take 3 (.take 4 (.take 6 (.alt 5 (.alt 7 (.take 8 (.take 9 (.take 10 (.take 11 (.take 12 (.take 13 (.take 14 (.take 16 (.alt 15 (.alt 17 (.take 18 (.alt 19 (.take 20 (.take 21 .done)) .stop)) .stop) (.alt 17 (.alt 15 (.take 18 (.alt 19 (.take 20 (.take 21 .done)) .stop)) .stop) .stop)))))))))) .stop) (.alt 7 (.take 8 (.alt 5 (.take 9 (.take 10 (.take 11 (.take 12 (.take 13 (.take 14 (.take 16 (.alt 15 (.alt 17 (.take 18 (.alt 19 (.take 20 (.take 21 .done)) .stop)) .stop) (.alt 17 (.alt 15 (.take 18 (.alt 19 (.take 20 (.take 21 .done)) .stop)) .stop) .stop))))))))) .stop)) .stop)))))) .stop))
def plGL09h_5 : Plan := (.take 0 (.take 1 (.take 2 (.take 3 (.take 4 (.take 5 (.take 6 (.take 7 (.take 8 (.take 9 (.take 10 (.take 11 (.alt 12 (.take 13 (.altE 14 (.take 15 (.altE 16 .done .stop)) .stop)) .stop)))))))))))))
def plGL09h_6 : Plan := (.take 0 (.take 1 (.take 2 (.take 3 (.take 4 (.take 5 (.take 6 (.take 7 (.take 8 (.take 10 (.take 11 (.alt 9 (.alt 12 (.take 13 (.altE 14 (.take 15 (.altE 16 .done .stop)) .stop)) .stop) .stop))))))))))))
def encB (b : Bool) : List AV := [.bool b]
theorem later_ok (nodes : List Nd) (rs : List Bool) (c i : Int) (hl : nodes.length ≤ 1000000) (hr : rs.length = nodes.length) (hi : 0 ≤ i) : Good Try.prog TT false 109 [.int .i64 c, .int .i64 i, .ref [ndsV nodes], .ref [.lst 1 (rs.map encB)]] (· = .bool (decide (i < c ∧ c < nodes.length ∧ rs.getD c.toNat false = false))) := by
  have L : (nodes.map encN).length = nodes.length := List.length_map ..
  have LB : (rs.map encB).length = rs.length := List.length_map ..
  refine good_of mixed tabOk Try.func109 rfl rfl Try.ntmps109 Try.results109 rfl rfl ?_
  (conv => whnf); (repeat' (first | (refine arith_i ⟨by omega, by omega⟩ ?_; conv => whnf) | (refine arith_u ⟨by omega, by omega⟩ ?_; conv => whnf) | (refine arith_8 ⟨by omega, by omega⟩ ?_; conv => whnf) | (refine need_i (by first | omega | (simp only [List.length_cons, List.length_nil]; omega) | (simp only [List.length_append, List.length_cons, List.length_nil, List.length_map, List.length_replicate, List.length_modify]; omega)) ?_; conv => whnf) | ((with_reducible refine branch_tt ?_); conv => whnf) | ((with_reducible refine branch_ff ?_); conv => whnf) | (with_reducible refine branch_not ?_) | ((refine idx_m (by omega) (by omega) fun y hy => ?_); conv => whnf) | ((with_reducible refine slc_e ?_); conv => whnf) | ((with_reducible refine callS_a ?_); conv => whnf) | ((with_reducible refine bld_a ?_); conv => whnf) | ((with_reducible refine own_e ?_); conv => whnf) | ((with_reducible refine mkmap_b ?_); conv => whnf) | ((with_reducible refine branch_d (fun hq => ?_) (fun hq => ?_)) <;> (try (exfalso; omega)) <;> (conv => whnf)) | ((with_reducible refine branch_e (fun hq => ?_) (fun hq => ?_)) <;> (try (exfalso; omega)) <;> (conv => whnf)) | ((with_reducible refine branch_n (fun hq => ?_) (fun hq => ?_)) <;> (try (exfalso; omega)) <;> (conv => whnf)) | ((with_reducible refine branch_i (fun hq => ?_) (fun hq => ?_)) <;> (try (exfalso; omega)) <;> (conv => whnf))))
  all_goals first
    | exact ret_p rfl (bool_eq (by simp [*]; try omega))
    | exact ret_p rfl (bool_eq (by rw [Bool.eq_iff_iff]; simp [List.getD_eq_getElem?_getD, hy]; omega))
/-- A branch as it should be. -/
def brC (c N i : Nat) (n : Nd) (out : List (List Int)) (kn : List Bool) : Prop := (i : Int) < n.zero ∧ n.zero < N ∧ (i : Int) < n.one ∧ n.one < N ∧ n.zero ≠ n.one ∧ 0 ≤ n.var ∧ n.var < c ∧ kn.getD n.zero.toNat false = false ∧ kn.getD n.one.toNat false = false ∧ nth (out.getD i []) n.var.toNat = -1
instance (c N i : Nat) (n : Nd) (out : List (List Int)) (kn : List Bool) : Decidable (brC c N i n out kn) := by unfold brC; infer_instance
/-- One node of a tree: the states and what is known behind it. -/
def stepS (c rows N : Nat) (i : Nat) (n : Nd) (out : List (List Int)) (kn : List Bool) : Option (List (List Int) × List Bool) :=
  if kn.getD i false = false then none
  else if n.kind ≠ 1 then if (infB rows n || bndB rows n) = true then some (out, kn) else none
  else if brC c N i n out kn then
    some ((out.set n.zero.toNat ((out.getD i []).set n.var.toNat 0)).set n.one.toNat ((out.getD i []).set n.var.toNat 1), (kn.set n.zero.toNat true).set n.one.toNat true)
  else none
def goS (c rows N : Nat) : Nat → List (List Int) → List Bool → List Nd → Option (List (List Int))
  | _, out, _, [] => some out
  | i, out, kn, n :: ns => match stepS c rows N i n out kn with
    | none => none
    | some (o, k) => goS c rows N (i + 1) o k ns
def statesF (P : Prog) (nodes : List Nd) : Option (List (List Int)) × Int :=
  if validB P = false then (none, 1) else if 8191 < nodes.length then (none, 3) else if nodes.length = 0 then (none, 29)
  else match goS P.costs.length P.rows.length nodes.length 0 ((List.replicate nodes.length []).set 0 (List.replicate P.costs.length (-1))) ((List.replicate nodes.length false).set 0 true) nodes with
    | none => (none, 29)
    | some o => (some o, 0)
def encS (st : List Int) : List AV := [ints st]
def statesV (P : Prog) (nodes : List Nd) : AV := .tup [.lst 1 (((statesF P nodes).1.getD []).map encS), .int .i64 (statesF P nodes).2]
theorem st_none {P : Prog} {nodes : List Nd} {e : Int} (h : statesF P nodes = (none, e)) : aret (.tup [.nil, .int .i64 e]) (· = statesV P nodes) :=
  ret_t (rs := [.lst 1 [], .int .i64 e]) ⟨.inl rc_n, (rc_p rfl).g, trivial⟩ (by rw [statesV, h]; rfl)
theorem encS_set {st : List Int} (out : List (List Int)) (i : Nat) : (out.map encS).modify i (fun c => c.set 0 (ints st)) = (out.set i st).map encS := by
  rw [map_modify (enc := encS) (g := fun _ => st) (fun x => rfl)]
  congr 1
  induction out generalizing i with
  | nil => simp
  | cons x l ih => cases i <;> simp [List.modify_zero_cons, List.modify_succ_cons, ih]
theorem encB_set {b : Bool} (kn : List Bool) (i : Nat) : (kn.map encB).modify i (fun c => c.set 0 (.bool b)) = (kn.set i b).map encB := by
  rw [map_modify (enc := encB) (g := fun _ => b) (fun x => rfl)]
  congr 1
  induction kn generalizing i with
  | nil => simp
  | cons x l ih => cases i <;> simp [List.modify_zero_cons, List.modify_succ_cons, ih]
theorem repl_S (n : Nat) : List.replicate n [AV.lst 1 []] = (List.replicate n []).map encS := by simp [encS, ints]
theorem repl_B (n : Nat) : List.replicate n [AV.bool false] = (List.replicate n false).map encB := by simp [encB]
theorem go_none {c rows N i : Nat} {n : Nd} {out : List (List Int)} {kn : List Bool} {ns : List Nd} (h : stepS c rows N i n out kn = none) : goS c rows N i out kn (n :: ns) = none := by simp only [goS, h]
theorem go_some {c rows N i : Nat} {n : Nd} {out o : List (List Int)} {kn k : List Bool} {ns : List Nd} (h : stepS c rows N i n out kn = some (o, k)) : goS c rows N i out kn (n :: ns) = goS c rows N (i + 1) o k ns := by simp only [goS, h]
theorem step_un {c rows N i : Nat} {n : Nd} {out : List (List Int)} {kn : List Bool} (h : kn[i]? = some false) : stepS c rows N i n out kn = none := by
  rw [stepS, if_pos (by simp [List.getD_eq_getElem?_getD, h])]
theorem step_leaf {c rows N i : Nat} {n : Nd} {out : List (List Int)} {kn : List Bool} (h : kn[i]? = some true) (hk : n.kind ≠ 1) : stepS c rows N i n out kn = if (infB rows n || bndB rows n) = true then some (out, kn) else none := by
  rw [stepS, if_neg (by simp [List.getD_eq_getElem?_getD, h]), if_pos hk]
theorem step_br {c rows N i : Nat} {n : Nd} {out : List (List Int)} {kn : List Bool} (h : kn[i]? = some true) (hk : n.kind = 1) : stepS c rows N i n out kn = if brC c N i n out kn then
    some ((out.set n.zero.toNat ((out.getD i []).set n.var.toNat 0)).set n.one.toNat ((out.getD i []).set n.var.toNat 1), (kn.set n.zero.toNat true).set n.one.toNat true) else none := by
  rw [stepS, if_neg (by simp [List.getD_eq_getElem?_getD, h]), if_neg (by simp [hk])]
theorem getD_some {α : Type} {xs : List α} {i : Nat} {x d : α} (h : xs[i]? = some x) : xs.getD i d = x := by simp [List.getD_eq_getElem?_getD, h]
theorem known_set {c N : Nat} {out : List (List Int)} {kn : List Bool} {z : Nat} {st : List Int} (ho : out.length = N) (hk : kn.length = N) (hz : z < N) (hst : st.length = c) (h : ∀ j : Nat, kn.getD j false = true → (out.getD j []).length = c) : ∀ j : Nat, (kn.set z true).getD j false = true → ((out.set z st).getD j []).length = c := fun j hj => by
  by_cases e : z = j
  · subst e
    rw [List.getD_eq_getElem?_getD, List.getElem?_set_self (by omega)]
    exact hst
  · rw [List.getD_eq_getElem?_getD, List.getElem?_set_ne e, ← List.getD_eq_getElem?_getD]
    rw [List.getD_eq_getElem?_getD, List.getElem?_set_ne e, ← List.getD_eq_getElem?_getD] at hj
    exact h j hj
theorem idx_mod_ne {es : List (List AV)} {i : Nat} {f : List AV → List AV} {n : Int} {K : List AV → Prop} (h : n.toNat ≠ i) (hi : idx es n K) : idx (es.modify i f) n K := by
  rw [idx_iff] at hi ⊢
  obtain ⟨h0, cs, h1, h2⟩ := hi
  exact ⟨h0, cs, by rw [List.getElem?_modify, h1]; simp; intro e; exact absurd e.symm h, h2⟩
set_option maxHeartbeats 2000000 in
theorem states_ok (P : Prog) (nodes : List Nd) (hP : Fits P) (hl : nodes.length ≤ 1000000) : Good Try.prog TT false 86 [progV P, ndsV nodes] (· = statesV P nodes) := by
  have L : (P.costs.map encI).length = P.costs.length := List.length_map ..
  have LR : (P.rows.map encRow).length = P.rows.length := List.length_map ..
  have LN : (nodes.map encN).length = nodes.length := List.length_map ..
  have eN : (((nodes.map encN).length : Int)).toNat = nodes.length := by simp
  refine good_of mixed tabOk Try.func86 rfl rfl Try.ntmps86 Try.results86 rfl rfl ?_
  (conv => whnf); (repeat' (first | (refine arith_i ⟨by omega, by omega⟩ ?_; conv => whnf) | (refine arith_u ⟨by omega, by omega⟩ ?_; conv => whnf) | (refine arith_8 ⟨by omega, by omega⟩ ?_; conv => whnf) | (refine need_i (by first | omega | (simp only [List.length_cons, List.length_nil]; omega) | (simp only [List.length_append, List.length_cons, List.length_nil, List.length_map, List.length_replicate, List.length_modify]; omega)) ?_; conv => whnf) | ((with_reducible refine branch_tt ?_); conv => whnf) | ((with_reducible refine branch_ff ?_); conv => whnf) | (with_reducible refine branch_not ?_) | ((refine call_e (valid_ok P hP.1 hP.2.1 hP.2.2) ?_); conv => whnf) | ((rw [L]; refine call_e (repeat_ok P.costs.length (validB_parts (by assumption)).1) ?_); conv => whnf) | ((refine nils_i [.lst 1 []] ⟨pc_nil 1, trivial⟩ ?_); conv => whnf) | ((refine idx_r (by omega) (by omega) ?_); conv => whnf) | ((with_reducible refine slc_e ?_); conv => whnf) | ((with_reducible refine callS_a ?_); conv => whnf) | ((with_reducible refine bld_a ?_); conv => whnf) | ((with_reducible refine own_e ?_); conv => whnf) | ((with_reducible refine mkmap_b ?_); conv => whnf) | (refine draw_i 11 plGL09h_0 (by decide +kernel) ?_; (conv => whnf); fail_if_success (guard_target =~ False)) | (refine draw_i 0 plGL09h_1 (by decide +kernel) ?_; (conv => whnf); fail_if_success (guard_target =~ False)) | (refine draw_i 22 plGL09h_2 (by decide +kernel) ?_; (conv => whnf); fail_if_success (guard_target =~ False)) | (refine draw_i 22 plGL09h_3 (by decide +kernel) ?_; (conv => whnf); fail_if_success (guard_target =~ False)) | (refine draw_i 22 plGL09h_4 (by decide +kernel) ?_; (conv => whnf); fail_if_success (guard_target =~ False)) | (refine draw_i 17 plGL09h_5 (by decide +kernel) ?_; (conv => whnf); fail_if_success (guard_target =~ False)) | (refine draw_i 17 plGL09h_6 (by decide +kernel) ?_; (conv => whnf); fail_if_success (guard_target =~ False)) | (refine draw_i 17 plGL09h_5 (by decide +kernel) ?_; (conv => whnf); fail_if_success (guard_target =~ False)) | (refine draw_i 17 plGL09h_6 (by decide +kernel) ?_; (conv => whnf); fail_if_success (guard_target =~ False)) | ((with_reducible refine And.intro ?_ ?_) <;> (conv => whnf)) | (with_reducible exact trivial) | ((with_reducible refine branch_d (fun hq => ?_) (fun hq => ?_)) <;> (try (exfalso; omega)) <;> (conv => whnf)) | ((with_reducible refine branch_e (fun hq => ?_) (fun hq => ?_)) <;> (try (exfalso; omega)) <;> (conv => whnf)) | ((with_reducible refine branch_n (fun hq => ?_) (fun hq => ?_)) <;> (try (exfalso; omega)) <;> (conv => whnf)) | ((with_reducible refine branch_i (fun hq => ?_) (fun hq => ?_)) <;> (try (exfalso; omega)) <;> (conv => whnf))))
  · exact st_none (by rw [statesF, if_neg (by simp [*]), if_pos (by omega)])
  · exact st_none (by rw [statesF, if_neg (by simp [*]), if_neg (by omega), if_pos (by omega)])
  · rename_i hv _
    have hc := (validB_parts hv).1
    refine loop_i3 (fun (i : Nat) (out : List (List Int)) (kn : List Bool) => i ≤ nodes.length ∧ out.length = nodes.length ∧ kn.length = nodes.length ∧ (∀ j : Nat, kn.getD j false = true → (out.getD j []).length = P.costs.length) ∧
        statesF P nodes = (match goS P.costs.length P.rows.length nodes.length i out kn (nodes.drop i) with | none => (none, 29) | some o => (some o, 0)))
      (fun i out kn => mkSt [(2, .ptr 2 0), (6, .own 22 22 1 (out.map encS)), (7, .ptr 7 0), (8, .fn 109 [.ptr 3 0, .ptr 7 0]), (36, ndsV nodes), (37, .int .i64 (nodes.map encN).length), (38, .int .i64 i)] [(2, [ints P.costs, rowsV P.rows]), (3, [ndsV nodes]), (7, [.own 25 4 1 (kn.map encB)])] false)
      (fun i _ _ => nodes.length - i) 0 ((List.replicate nodes.length []).set 0 (List.replicate P.costs.length (-1))) ((List.replicate nodes.length false).set 0 true) ⟨Nat.zero_le _, by simp, by simp, ?_, ?_⟩
      (le_mk ⟨rfl, by rw [← encS_set, ← repl_S, ← eN]; rfl, rfl, rfl, rfl, rfl, rfl, trivial⟩ ⟨rfl, rfl, by rw [← encB_set, ← repl_B, ← eN]; rfl, trivial⟩ rfl) ?_
    · refine known_set (N := nodes.length) (by simp) (by simp) (by omega) (by simp) fun j hj => ?_
      rw [List.getD_eq_getElem?_getD, List.getElem?_replicate] at hj
      split at hj <;> simp at hj
    · rw [statesF, if_neg (by simp [hv]), if_neg (by omega), if_neg (by omega)]; rfl
    rintro i out kn ⟨hi, ho, hk, hlen, hF⟩
    have LO : (out.map encS).length = out.length := List.length_map ..
    have LK : (kn.map encB).length = kn.length := List.length_map ..
    (conv => whnf); (repeat' (first | (refine arith_i ⟨by omega, by omega⟩ ?_; conv => whnf) | (refine arith_u ⟨by omega, by omega⟩ ?_; conv => whnf) | (refine arith_8 ⟨by omega, by omega⟩ ?_; conv => whnf) | (refine need_i (by first | omega | (simp only [List.length_cons, List.length_nil]; omega) | (simp only [List.length_append, List.length_cons, List.length_nil, List.length_map, List.length_replicate, List.length_modify]; omega)) ?_; conv => whnf) | ((with_reducible refine branch_tt ?_); conv => whnf) | ((with_reducible refine branch_ff ?_); conv => whnf) | (with_reducible refine branch_not ?_) | ((first | refine idx_cs (by assumption) ?_ | refine idx_ms (by omega) (by assumption) ?_ | (refine idx_c (xs := nodes) (by omega) fun y hy => ?_; rw [drop_at hy] at hF) | (refine idx_c (xs := kn) (by omega) fun z hz => ?_) | (refine idx_c (xs := out) (by omega) fun st hst => ?_; have hsl := hlen i (by rw [getD_some hz]; assumption); rw [getD_some hst] at hsl; have LS : (st.map encI).length = st.length := List.length_map ..) | (refine idx_m (enc := encI) (by omega) (by omega) fun v hvv => ?_) | (refine idx_m (by omega) (by omega) fun u hu => ?_) | refine idx_mod_ne (by omega) ?_); conv => whnf) | ((refine call_e (oInf_ok P _) ?_); conv => whnf) | ((refine call_e (oBound_ok P _) ?_); conv => whnf) | ((refine call_e (later_ok nodes kn _ i hl hk (by omega)) ?_); conv => whnf) | ((refine call_e (with_ok _ _ _ (by omega) (by omega)) ?_); conv => whnf) | ((with_reducible refine slc_e ?_); conv => whnf) | ((with_reducible refine callS_a ?_); conv => whnf) | ((with_reducible refine bld_a ?_); conv => whnf) | ((with_reducible refine own_e ?_); conv => whnf) | ((with_reducible refine mkmap_b ?_); conv => whnf) | (refine draw_i 11 plGL09h_0 (by decide +kernel) ?_; (conv => whnf); fail_if_success (guard_target =~ False)) | (refine draw_i 0 plGL09h_1 (by decide +kernel) ?_; (conv => whnf); fail_if_success (guard_target =~ False)) | (refine draw_i 22 plGL09h_3 (by decide +kernel) ?_; (conv => whnf); fail_if_success (guard_target =~ False)) | (refine draw_i 22 plGL09h_4 (by decide +kernel) ?_; (conv => whnf); fail_if_success (guard_target =~ False)) | (refine draw_i 22 plGL09h_2 (by decide +kernel) ?_; (conv => whnf); fail_if_success (guard_target =~ False)) | (refine draw_i 17 plGL09h_6 (by decide +kernel) ?_; (conv => whnf); fail_if_success (guard_target =~ False)) | (refine draw_i 17 plGL09h_5 (by decide +kernel) ?_; (conv => whnf); fail_if_success (guard_target =~ False)) | (refine draw_i 17 plGL09h_6 (by decide +kernel) ?_; (conv => whnf); fail_if_success (guard_target =~ False)) | (refine draw_i 17 plGL09h_5 (by decide +kernel) ?_; (conv => whnf); fail_if_success (guard_target =~ False)) | ((with_reducible refine And.intro ?_ ?_) <;> (conv => whnf)) | (with_reducible exact trivial) | ((with_reducible refine branch_d (fun hq => ?_) (fun hq => ?_)) <;> (try (exfalso; omega)) <;> (conv => whnf)) | ((with_reducible refine branch_e (fun hq => ?_) (fun hq => ?_)) <;> (try (exfalso; omega)) <;> (conv => whnf)) | ((with_reducible refine branch_n (fun hq => ?_) (fun hq => ?_)) <;> (try (exfalso; omega)) <;> (conv => whnf)) | ((with_reducible refine branch_i (fun hq => ?_) (fun hq => ?_)) <;> (try (exfalso; omega)) <;> (conv => whnf))))
    all_goals first
      | (have e1 : kn[i]? = some false := by rw [hz]; simp only [*]
         exact st_none (hF.trans (by rw [go_none (step_un e1)])))
      | (have e1 : kn[i]? = some true := by rw [hz]; simp only [*]
         have e2 : y.kind ≠ 1 := by assumption
         have e3 : stepS P.costs.length P.rows.length nodes.length i y out kn = none := by rw [step_leaf e1 e2]; simp [*]
         exact st_none (hF.trans (by rw [go_none e3])))
      | (have e1 : kn[i]? = some true := by rw [hz]; simp only [*]
         have e2 : y.kind = 1 := by assumption
         have e4 : ¬ brC P.costs.length nodes.length i y out kn := by
           rintro ⟨b1, b2, b3, b4, b5, b6, b7, b8, b9, b10⟩
           first | omega | exact hq ⟨b1, b2, b8⟩ | exact hq ⟨b3, b4, b9⟩ | (rw [getD_some hst, nth_eq hvv] at b10; exact hq b10)
         have e3 : stepS P.costs.length P.rows.length nodes.length i y out kn = none := by rw [step_br e1 e2, if_neg e4]
         exact st_none (hF.trans (by rw [go_none e3])))
      | (have e1 : kn[i]? = some true := by rw [hz]; simp only [*]
         have e2 : y.kind ≠ 1 := by assumption
         have e3 : stepS P.costs.length P.rows.length nodes.length i y out kn = some (out, kn) := by rw [step_leaf e1 e2]; simp [*]
         exact ⟨i + 1, out, kn, ⟨by omega, ho, hk, hlen, hF.trans (by rw [go_some e3])⟩, (le_mk (by repeat' (first | exact trivial | rfl | apply And.intro)) (by repeat' (first | exact trivial | rfl | apply And.intro)) rfl), by omega⟩)
      | (have e1 : kn[i]? = some true := by rw [hz]; simp only [*]
         have e2 : y.kind = 1 := by assumption
         have e4 : brC P.costs.length nodes.length i y out kn := ⟨by omega, by omega, by omega, by omega, by omega, by omega, by omega, by simp only [*], by simp only [*], by rw [getD_some hst, nth_eq hvv]; exact hq⟩
         have e3 := step_br (c := P.costs.length) (rows := P.rows.length) (N := nodes.length) e1 e2 (out := out)
         rw [if_pos e4, getD_some hst] at e3
         refine ⟨i + 1, _, _, ⟨by omega, ?_, ?_, ?_, hF.trans (by rw [go_some e3])⟩, le_mk ⟨rfl, by rw [← encS_set, ← encS_set]; rfl, rfl, rfl, rfl, rfl, rfl, trivial⟩ ⟨rfl, rfl, by rw [← encB_set, ← encB_set]; rfl, trivial⟩ rfl, by omega⟩
         · simp; exact ho
         · simp; exact hk
         · exact known_set (N := nodes.length) (by simp; exact ho) (by simp; exact hk) (by omega) (by simp; exact hsl) (known_set ho hk (by omega) (by simp; exact hsl) hlen))
      | (have e0 : nodes.drop i = [] := drop_end (by omega)
         rw [e0] at hF
         exact ret_t (rs := [.lst 1 (out.map encS), .int .i64 0]) ⟨.inl rc_o, (rc_p rfl).g, trivial⟩ (by rw [statesV, hF]; rfl))
  · exact st_none (by simp [statesF, *])
end Go.Proofs.Ytengafkfgcdpeaa
end
