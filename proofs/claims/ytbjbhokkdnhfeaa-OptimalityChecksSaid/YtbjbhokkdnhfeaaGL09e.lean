/- Layer 9, the reference by the interpreter: row, Bound, leaf. -/
import Derived.Test.YtbjbhokkdnhfeaaGL08r
import Derived.Test.YtbjbhokkdnhfeaaGL09d

namespace Go.Proofs.Ytbjbhokkdnhfeaa
set_option linter.unusedVariables false
set_option linter.unusedSimpArgs false
set_option linter.unnecessarySimpa false
set_option linter.unusedSectionVars false
set_option maxRecDepth 10000
open Go.RowKit
def plGL09e_0 : Plan := (.take 0 (.take 5 (.alt 1 (.take 2 (.alt 3 (.take 4 (.alt 6 (.take 7 (.take 8 (.take 9 (.alt 10 (.take 11 (.take 12 (.alt 13 (.take 14 .done) .stop))) (.alt 13 (.alt 10 (.take 11 (.take 12 (.take 14 .done))) .stop) .stop))))) .stop)) (.alt 6 (.take 7 (.take 8 (.take 9 (.alt 3 (.take 4 (.alt 10 (.take 11 (.take 12 (.alt 13 (.take 14 .done) .stop))) (.alt 13 (.alt 10 (.take 11 (.take 12 (.take 14 .done))) .stop) .stop))) (.alt 10 (.take 11 (.take 12 (.alt 3 (.take 4 (.alt 13 (.take 14 .done) .stop)) .stop))) .stop))))) .stop))) (.alt 6 (.take 7 (.take 8 (.take 9 (.alt 1 (.take 2 (.alt 3 (.take 4 (.alt 10 (.take 11 (.take 12 (.alt 13 (.take 14 .done) .stop))) (.alt 13 (.alt 10 (.take 11 (.take 12 (.take 14 .done))) .stop) .stop))) (.alt 10 (.take 11 (.take 12 (.alt 3 (.take 4 (.alt 13 (.take 14 .done) .stop)) .stop))) .stop))) (.alt 10 (.take 11 (.take 12 (.alt 1 (.take 2 (.alt 3 (.take 4 (.alt 13 (.take 14 .done) .stop)) .stop)) .stop))) .stop))))) .stop))))
def plGL09e_1 : Plan := (.take 0 (.take 1 (.take 2 (.take 3 (.take 4 (.take 5 (.take 6 (.take 7 (.take 8 (.take 9 (.take 10 (.take 11 (.take 12 (.take 13 (.take 14 (.take 15 (.take 16 (.take 17 .done))))))))))))))))))
def plGL09e_2 : Plan := (.take 0 (.take 1 (.take 2 (.take 3 (.take 4 (.take 5 (.take 8 (.take 9 (.take 10 (.take 11 (.take 12 (.take 13 (.alt 6 (.take 7 (.alt 14 (.take 15 (.take 16 (.take 17 .done))) .stop)) (.alt 14 (.take 15 (.alt 6 (.take 7 (.take 16 (.take 17 .done))) .stop)) .stop))))))))))))))

def rowOk9 (rows : Nat) (n : Nd) : Bool := decide ((n.row = -1 ∧ n.num = 0 ∧ n.den = 1) ∨ (n.row ≠ -1 ∧ 0 ≤ n.row ∧ n.row < rows ∧ -10000 ≤ n.num ∧ n.num ≤ 10000 ∧ 1 ≤ n.den ∧ n.den ≤ 10000))
theorem bnd_row (rows : Nat) (n : Nd) : bndB rows n = (decide (n.kind = 3) && rowOk9 rows n) := by
  rw [Bool.eq_iff_iff]
  unfold bndB rowOk9
  split <;> simp <;> omega
def row9 (P : Prog) (n : Nd) : Row := if n.row = -1 ∨ rowOk9 P.rows.length n = true then rowOf P n else ⟨[], 0, 0⟩
theorem row9_ret (P : Prog) (n : Nd) {c : AV} {l m : Int} {b : Bool} (hc : RetC c (ints (row9 P n).coefs)) (hl : l = (row9 P n).least) (hm : m = (row9 P n).most) (hb : b = rowOk9 P.rows.length n) : aret (.tup [.agg [c, .int .i64 l, .int .i64 m], .bool b]) (· = .tup [.agg (encRow (row9 P n)), .bool (rowOk9 P.rows.length n)]) := by
  subst hl hm hb
  exact ret_t (rs := [.agg (encRow (row9 P n)), .bool (rowOk9 P.rows.length n)]) ⟨.inr ⟨_, _, rfl, rfl, hc, rc_p rfl, rc_p rfl, trivial⟩, (rc_p rfl).g, trivial⟩ rfl
theorem repl_enc (n : Nat) : List.replicate n [AV.int .i64 0] = (List.replicate n (0 : Int)).map encI := by simp [encI]
theorem row_ok (P : Prog) (n : Nd) (hP : Fits P) : Good Try.prog TT false 58 [progV P, .agg (encN n)] (· = .tup [.agg (encRow (row9 P n)), .bool (rowOk9 P.rows.length n)]) := by
  have L : (P.costs.map encI).length = P.costs.length := List.length_map ..
  have LR : (P.rows.map encRow).length = P.rows.length := List.length_map ..
  have hP1 := hP.1
  have hP2 := hP.2.1
  have none9 : n.row = -1 → RetC (.own 12 3 (tab 3).size (List.replicate (((P.costs.map encI).length : Int)).toNat [AV.int .i64 0])) (ints (row9 P n).coefs) ∧ (row9 P n).least = 0 ∧ (row9 P n).most = 0 := fun h => by
    have e : row9 P n = ⟨List.replicate P.costs.length 0, 0, 0⟩ := by
      rw [row9, if_pos (.inl h), rowOf, if_pos (by omega)]
    rw [e, L, Int.toNat_natCast, repl_enc]
    exact ⟨rc_o, rfl, rfl⟩
  have bad : n.row ≠ -1 → rowOk9 P.rows.length n = false → row9 P n = ⟨[], 0, 0⟩ := fun h h' => by rw [row9, if_neg]; simp [h, h']
  refine good_of mixed tabOk Try.func58 rfl rfl Try.ntmps58 Try.results58 rfl rfl ?_
  (conv => whnf); (repeat' (first | (refine arith_i ⟨by omega, by omega⟩ ?_; conv => whnf) | (refine arith_u ⟨by omega, by omega⟩ ?_; conv => whnf) | (refine arith_8 ⟨by omega, by omega⟩ ?_; conv => whnf) | (refine need_i (by first | omega | (simp only [List.length_append, List.length_cons, List.length_nil, List.length_map, List.length_replicate, List.length_modify]; omega)) ?_; conv => whnf) | ((with_reducible refine branch_tt ?_); conv => whnf) | ((with_reducible refine branch_ff ?_); conv => whnf) | (with_reducible refine branch_not ?_) | ((refine idx_m (by omega) (by omega) fun y hy => ?_; have hn := rowAt_eq hy); conv => whnf) | ((with_reducible refine slc_e ?_); conv => whnf) | ((with_reducible refine callS_a ?_); conv => whnf) | ((with_reducible refine bld_a ?_); conv => whnf) | ((with_reducible refine own_e ?_); conv => whnf) | (refine draw_i 0 plGL09e_0 (by decide +kernel) ?_; (conv => whnf); fail_if_success (guard_target =~ False)) | ((with_reducible refine And.intro ?_ ?_) <;> (conv => whnf)) | (with_reducible exact trivial) | ((with_reducible refine branch_d (fun hq => ?_) (fun hq => ?_)) <;> (try (exfalso; omega)) <;> (conv => whnf)) | ((with_reducible refine branch_e (fun hq => ?_) (fun hq => ?_)) <;> (try (exfalso; omega)) <;> (conv => whnf)) | ((with_reducible refine branch_n (fun hq => ?_) (fun hq => ?_)) <;> (try (exfalso; omega)) <;> (conv => whnf)) | ((with_reducible refine branch_i (fun hq => ?_) (fun hq => ?_)) <;> (try (exfalso; omega)) <;> (conv => whnf))))
  all_goals first
    | (have h1 := none9 (by assumption)
       exact row9_ret P n h1.1 h1.2.1.symm h1.2.2.symm (by rw [Bool.eq_iff_iff]; simp [rowOk9]; try omega))
    | (have h2 : rowOk9 P.rows.length n = false := by simp [rowOk9]; omega
       exact row9_ret P n (by rw [bad (by assumption) h2]; exact rc_n) (by rw [bad (by assumption) h2]) (by rw [bad (by assumption) h2]) h2.symm)
    | (have h2 : rowOk9 P.rows.length n = true := by simp [rowOk9]; omega
       have h3 : row9 P n = y := by rw [row9, if_pos (.inr h2), rowOf, if_neg (by omega), hn]
       exact row9_ret P n (by rw [h3]; exact rc_p rfl) (by rw [h3]) (by rw [h3]) h2.symm)
theorem row_yes (P : Prog) (n : Nd) (hP : Fits P) (h : rowOk9 P.rows.length n = true) : Good Try.prog TT false 58 [progV P, .agg (encN n)] (· = .tup [.agg (encRow (rowOf P n)), .bool true]) :=
  (row_ok P n hP).mono fun r hr => hr.trans (by rw [row9, if_pos (.inr h), h])
theorem bound_ret {P : Prog} {st : List Int} {n : Nd} {x : Int} {b : Bool} (hb : b = okB P st n) (hx : x = if okB P st n = true then boundF P st n else 0) : aret (.tup [.int .i64 x, .bool b]) (· = boundV P st n) := by
  subst hb hx
  exact ret_t (rs := [_, _]) ⟨(rc_p rfl).g, (rc_p rfl).g, trivial⟩ rfl
theorem rBound_ok (P : Prog) (st : List Int) (n : Nd) (hP : Fits P) (hl : st.length ≤ 1000000) : Good Try.prog TT false 43 [progV P, ints st, .agg (encN n)] (· = boundV P st n) := by
  have L : (P.costs.map encI).length = P.costs.length := List.length_map ..
  have LR : (P.rows.map encRow).length = P.rows.length := List.length_map ..
  have LS : (st.map encI).length = st.length := List.length_map ..
  have hP1 := hP.1
  have hP2 := hP.2.1
  have bad : okB P st n = false → aret (.tup [.int .i64 0, .bool false]) (· = boundV P st n) := fun h => bound_ret h.symm (by simp [h])
  cases h9 : rowOk9 P.rows.length n with
  | false =>
    have row_no : Good Try.prog TT false 58 [progV P, .agg (encN n)] (· = .tup [.agg (encRow (row9 P n)), .bool false]) := h9 ▸ row_ok P n hP
    refine good_of mixed tabOk Try.func43 rfl rfl Try.ntmps43 Try.results43 rfl rfl ?_
    (conv => whnf); (repeat' (first | (refine arith_i ⟨by omega, by omega⟩ ?_; conv => whnf) | (refine arith_u ⟨by omega, by omega⟩ ?_; conv => whnf) | (refine arith_8 ⟨by omega, by omega⟩ ?_; conv => whnf) | (refine need_i (by first | omega | (simp only [List.length_append, List.length_cons, List.length_nil, List.length_map, List.length_replicate, List.length_modify]; omega)) ?_; conv => whnf) | ((with_reducible refine branch_tt ?_); conv => whnf) | ((with_reducible refine branch_ff ?_); conv => whnf) | (with_reducible refine branch_not ?_) | ((refine call_e (rValid_ok P hP) ?_); conv => whnf) | ((rw [L]; refine call_e (rState_ok st P.costs.length hl) ?_); conv => whnf) | ((refine call_e row_no ?_); conv => whnf) | ((with_reducible refine slc_e ?_); conv => whnf) | ((with_reducible refine callS_a ?_); conv => whnf) | ((with_reducible refine bld_a ?_); conv => whnf) | ((with_reducible refine own_e ?_); conv => whnf) | (refine draw_i 18 plGL09e_1 (by decide +kernel) ?_; (conv => whnf); fail_if_success (guard_target =~ False)) | (refine draw_i 18 plGL09e_2 (by decide +kernel) ?_; (conv => whnf); fail_if_success (guard_target =~ False)) | ((with_reducible refine And.intro ?_ ?_) <;> (conv => whnf)) | (with_reducible exact trivial) | ((with_reducible refine branch_d (fun hq => ?_) (fun hq => ?_)) <;> (try (exfalso; omega)) <;> (conv => whnf)) | ((with_reducible refine branch_e (fun hq => ?_) (fun hq => ?_)) <;> (try (exfalso; omega)) <;> (conv => whnf)) | ((with_reducible refine branch_n (fun hq => ?_) (fun hq => ?_)) <;> (try (exfalso; omega)) <;> (conv => whnf)) | ((with_reducible refine branch_i (fun hq => ?_) (fun hq => ?_)) <;> (try (exfalso; omega)) <;> (conv => whnf))))
    all_goals exact bad (by simp [okB, bnd_row, *])
  | true =>
    cases hk : okB P st n with
    | false =>
      refine good_of mixed tabOk Try.func43 rfl rfl Try.ntmps43 Try.results43 rfl rfl ?_
      (conv => whnf); (repeat' (first | (refine arith_i ⟨by omega, by omega⟩ ?_; conv => whnf) | (refine arith_u ⟨by omega, by omega⟩ ?_; conv => whnf) | (refine arith_8 ⟨by omega, by omega⟩ ?_; conv => whnf) | (refine need_i (by first | omega | (simp only [List.length_append, List.length_cons, List.length_nil, List.length_map, List.length_replicate, List.length_modify]; omega)) ?_; conv => whnf) | ((with_reducible refine branch_tt ?_); conv => whnf) | ((with_reducible refine branch_ff ?_); conv => whnf) | (with_reducible refine branch_not ?_) | ((refine call_e (rValid_ok P hP) ?_); conv => whnf) | ((rw [L]; refine call_e (rState_ok st P.costs.length hl) ?_); conv => whnf) | ((with_reducible refine slc_e ?_); conv => whnf) | ((with_reducible refine callS_a ?_); conv => whnf) | ((with_reducible refine bld_a ?_); conv => whnf) | ((with_reducible refine own_e ?_); conv => whnf) | (refine draw_i 18 plGL09e_1 (by decide +kernel) ?_; (conv => whnf); fail_if_success (guard_target =~ False)) | (refine draw_i 18 plGL09e_2 (by decide +kernel) ?_; (conv => whnf); fail_if_success (guard_target =~ False)) | ((with_reducible refine And.intro ?_ ?_) <;> (conv => whnf)) | (with_reducible exact trivial) | ((with_reducible refine branch_d (fun hq => ?_) (fun hq => ?_)) <;> (try (exfalso; omega)) <;> (conv => whnf)) | ((with_reducible refine branch_e (fun hq => ?_) (fun hq => ?_)) <;> (try (exfalso; omega)) <;> (conv => whnf)) | ((with_reducible refine branch_n (fun hq => ?_) (fun hq => ?_)) <;> (try (exfalso; omega)) <;> (conv => whnf)) | ((with_reducible refine branch_i (fun hq => ?_) (fun hq => ?_)) <;> (try (exfalso; omega)) <;> (conv => whnf))))
      all_goals first
        | exact bad hk
        | (exfalso; simp [okB, bnd_row, *] at hk)
    | true =>
      have hv : validB P = true := by simp [okB] at hk; exact hk.1.1
      have hs : stOB st P.costs.length = true := by simp [okB] at hk; exact hk.1.2
      have hb : bndB P.rows.length n = true := by simp [okB] at hk; exact hk.2
      have hkind : n.kind = 3 := by simp [bnd_row] at hb; exact hb.1
      have hlen : st.length = P.costs.length := by simp [stOB] at hs; omega
      have rs_ok : Good Try.prog TT false 50 [.int .i64 P.costs.length, ints st] (· = .bool true) := hs ▸ rState_ok st P.costs.length hl
      have rv_ok : Good Try.prog TT false 34 [progV P] (· = .bool true) := hv ▸ rValid_ok P hP
      have h12 := (validB_parts hv).1
      have hr := rowIn_of hv hb
      have LC : ((rowOf P n).coefs.map encI).length = (rowOf P n).coefs.length := List.length_map ..
      have hrl := hr.len
      obtain ⟨hn, hd⟩ := node_in hb
      have h3 := hr.le
      have h4 := hr.mo
      have m1 := mul_in (a := n.num) (b := (rowOf P n).most) (A := 10000) (B := 1000000) (by omega) (by omega)
      have m2 := mul_in (a := n.num) (b := (rowOf P n).least) (A := 10000) (B := 1000000) (by omega) (by omega)
      refine good_of mixed tabOk Try.func43 rfl rfl Try.ntmps43 Try.results43 rfl rfl ?_
      (conv => whnf); (repeat' (first | (refine arith_i ⟨by omega, by omega⟩ ?_; conv => whnf) | (refine arith_u ⟨by omega, by omega⟩ ?_; conv => whnf) | (refine arith_8 ⟨by omega, by omega⟩ ?_; conv => whnf) | (refine need_i (by first | omega | (simp only [List.length_append, List.length_cons, List.length_nil, List.length_map, List.length_replicate, List.length_modify]; omega)) ?_; conv => whnf) | ((with_reducible refine branch_tt ?_); conv => whnf) | ((with_reducible refine branch_ff ?_); conv => whnf) | (with_reducible refine branch_not ?_) | ((refine call_e rv_ok ?_); conv => whnf) | ((rw [L]; refine call_e rs_ok ?_); conv => whnf) | ((refine call_e (row_yes P n hP h9) ?_); conv => whnf) | ((with_reducible refine slc_e ?_); conv => whnf) | ((with_reducible refine callS_a ?_); conv => whnf) | ((with_reducible refine bld_a ?_); conv => whnf) | ((with_reducible refine own_e ?_); conv => whnf) | (refine draw_i 18 plGL09e_1 (by decide +kernel) ?_; (conv => whnf); fail_if_success (guard_target =~ False)) | (refine draw_i 18 plGL09e_2 (by decide +kernel) ?_; (conv => whnf); fail_if_success (guard_target =~ False)) | ((with_reducible refine And.intro ?_ ?_) <;> (conv => whnf)) | (with_reducible exact trivial) | ((with_reducible refine branch_d (fun hq => ?_) (fun hq => ?_)) <;> (try (exfalso; omega)) <;> (conv => whnf)) | ((with_reducible refine branch_e (fun hq => ?_) (fun hq => ?_)) <;> (try (exfalso; omega)) <;> (conv => whnf)) | ((with_reducible refine branch_n (fun hq => ?_) (fun hq => ?_)) <;> (try (exfalso; omega)) <;> (conv => whnf)) | ((with_reducible refine branch_i (fun hq => ?_) (fun hq => ?_)) <;> (try (exfalso; omega)) <;> (conv => whnf))))
      all_goals
        refine loop_i (fun k : Nat => k ≤ st.length) (fun k => mkSt [(1, ints st), (3, .ptr 3 0), (5, .ptr 5 0), (8, .ptr 8 0), (10, .int .i64 (totF P st n k)), (11, .int .i64 k)] [(3, [ints P.costs, rowsV P.rows]), (5, encN n), (8, encRow (rowOf P n))] false) (fun k => st.length - k) 0 (Nat.zero_le _) ?_ ?_
      · have e : totF P st n 0 = n.num * (rowOf P n).least := by simp only [totF, sumN, startF]; rw [if_neg (by omega)]; omega
        rw [e]; exact (le_mk (by repeat' (first | exact trivial | rfl | apply And.intro)) (by repeat' (first | exact trivial | rfl | apply And.intro)) rfl)
      rotate_left 1
      · have e : totF P st n 0 = n.num * (rowOf P n).most := by simp only [totF, sumN, startF]; rw [if_pos (by omega)]; omega
        rw [e]; exact (le_mk (by repeat' (first | exact trivial | rfl | apply And.intro)) (by repeat' (first | exact trivial | rfl | apply And.intro)) rfl)
      all_goals
        intro k hk'
        have ht := tot_in hv hb st k (by omega)
        have hnv := nodeV_in hv hb k
        have hco := hr.co k
        have hci := cost_in hv k
        have en : n.den * nth P.costs k - n.num * nth (rowOf P n).coefs k = nodeV P n k := rfl
        have mm1 := mul_in (a := n.den) (b := nth P.costs k) (A := 10000) (B := 10000) (by omega) (by omega)
        have mm2 := mul_in (a := n.num) (b := nth (rowOf P n).coefs k) (A := 10000) (B := 10000) (by omega) (by omega)
        have hdv := tdiv_in (a := totF P st n k) (b := n.den) (by omega)
        have et := tot_next (P := P) (st := st) (n := n) (k := k)
        (conv => whnf); (repeat' (first | (refine arith_i ⟨by omega, by omega⟩ ?_; conv => whnf) | (refine arith_u ⟨by omega, by omega⟩ ?_; conv => whnf) | (refine arith_8 ⟨by omega, by omega⟩ ?_; conv => whnf) | (refine need_i (by first | omega | (simp only [List.length_append, List.length_cons, List.length_nil, List.length_map, List.length_replicate, List.length_modify]; omega)) ?_; conv => whnf) | ((with_reducible refine branch_tt ?_); conv => whnf) | ((with_reducible refine branch_ff ?_); conv => whnf) | (with_reducible refine branch_not ?_) | ((first | refine idx_cs (by assumption) ?_ | (refine idx_c (xs := P.costs) (by omega) fun y hy => ?_; have hny := nth_eq hy; rw [hny] at hci en mm1) | (refine idx_c (xs := (rowOf P n).coefs) (by omega) fun z hz => ?_; have hnz := nth_eq hz; rw [hnz] at hco en mm2) | (refine idx_c (xs := st) (by omega) fun x hx => ?_; have hnx := nth_eq hx)); conv => whnf) | ((refine call_e (ceil_ok _ _ (by omega) (by omega) (by omega)) ?_); conv => whnf) | ((with_reducible refine slc_e ?_); conv => whnf) | ((with_reducible refine callS_a ?_); conv => whnf) | ((with_reducible refine bld_a ?_); conv => whnf) | ((with_reducible refine own_e ?_); conv => whnf) | (refine draw_i 18 plGL09e_1 (by decide +kernel) ?_; (conv => whnf); fail_if_success (guard_target =~ False)) | (refine draw_i 18 plGL09e_2 (by decide +kernel) ?_; (conv => whnf); fail_if_success (guard_target =~ False)) | ((with_reducible refine And.intro ?_ ?_) <;> (conv => whnf)) | (with_reducible exact trivial) | ((with_reducible refine branch_d (fun hq => ?_) (fun hq => ?_)) <;> (try (exfalso; omega)) <;> (conv => whnf)) | ((with_reducible refine branch_e (fun hq => ?_) (fun hq => ?_)) <;> (try (exfalso; omega)) <;> (conv => whnf)) | ((with_reducible refine branch_n (fun hq => ?_) (fun hq => ?_)) <;> (try (exfalso; omega)) <;> (conv => whnf)) | ((with_reducible refine branch_i (fun hq => ?_) (fun hq => ?_)) <;> (try (exfalso; omega)) <;> (conv => whnf))))
      all_goals first
        | (have e : totF P st n (k + 1) = totF P st n k + (n.den * y - n.num * z) := by rw [et, en, contr, if_pos (by omega)]
           exact ⟨k + 1, by omega, by rw [e]; exact (le_mk (by repeat' (first | exact trivial | rfl | apply And.intro)) (by repeat' (first | exact trivial | rfl | apply And.intro)) rfl), by omega⟩)
        | (have e : totF P st n (k + 1) = totF P st n k + (if 0 < n.den * y - n.num * z then 0 else n.den * y - n.num * z) := by rw [et, en, contr, if_neg (by omega), if_pos (by omega), min_if]
           exact ⟨k + 1, by omega, by rw [e]; exact (le_mk (by repeat' (first | exact trivial | rfl | apply And.intro)) (by repeat' (first | exact trivial | rfl | apply And.intro)) rfl), by omega⟩)
        | (have e : totF P st n (k + 1) = totF P st n k := by rw [et, contr, if_neg (by omega), if_neg (by omega)]; omega
           exact ⟨k + 1, by omega, by rw [e]; exact (le_mk (by repeat' (first | exact trivial | rfl | apply And.intro)) (by repeat' (first | exact trivial | rfl | apply And.intro)) rfl), by omega⟩)
        | (have hkk : k = P.costs.length := by omega
           exact bound_ret hk.symm (by rw [if_pos hk, boundF, ← hkk, ceilF, if_pos (by assumption)]))
        | (have hkk : k = P.costs.length := by omega
           exact bound_ret hk.symm (by rw [if_pos hk, boundF, ← hkk, ceilF, if_neg (by assumption)]))
theorem leaf_ok (P : Prog) (n : Nd) (hP : Fits P) : Good Try.prog TT false 35 [progV P, .agg (encN n)] (· = .bool (infB P.rows.length n || bndB P.rows.length n)) := by
  have L : (P.costs.map encI).length = P.costs.length := List.length_map ..
  have LR : (P.rows.map encRow).length = P.rows.length := List.length_map ..
  have hP1 := hP.1
  have hP2 := hP.2.1
  refine good_of mixed tabOk Try.func35 rfl rfl Try.ntmps35 Try.results35 rfl rfl ?_
  (conv => whnf); (repeat' (first | (refine arith_i ⟨by omega, by omega⟩ ?_; conv => whnf) | (refine arith_u ⟨by omega, by omega⟩ ?_; conv => whnf) | (refine arith_8 ⟨by omega, by omega⟩ ?_; conv => whnf) | (refine need_i (by first | omega | (simp only [List.length_append, List.length_cons, List.length_nil, List.length_map, List.length_replicate, List.length_modify]; omega)) ?_; conv => whnf) | ((with_reducible refine branch_tt ?_); conv => whnf) | ((with_reducible refine branch_ff ?_); conv => whnf) | (with_reducible refine branch_not ?_) | ((refine call_e (row_ok P n hP) ?_); conv => whnf) | ((with_reducible refine slc_e ?_); conv => whnf) | ((with_reducible refine callS_a ?_); conv => whnf) | ((with_reducible refine bld_a ?_); conv => whnf) | ((with_reducible refine own_e ?_); conv => whnf) | ((with_reducible refine branch_d (fun hq => ?_) (fun hq => ?_)) <;> (try (exfalso; omega)) <;> (conv => whnf)) | ((with_reducible refine branch_e (fun hq => ?_) (fun hq => ?_)) <;> (try (exfalso; omega)) <;> (conv => whnf)) | ((with_reducible refine branch_n (fun hq => ?_) (fun hq => ?_)) <;> (try (exfalso; omega)) <;> (conv => whnf)) | ((with_reducible refine branch_i (fun hq => ?_) (fun hq => ?_)) <;> (try (exfalso; omega)) <;> (conv => whnf))))
  all_goals exact ret_p rfl (bool_eq (by rw [Bool.eq_iff_iff]; simp [infB, bnd_row, *]; try omega))
end Go.Proofs.Ytbjbhokkdnhfeaa
