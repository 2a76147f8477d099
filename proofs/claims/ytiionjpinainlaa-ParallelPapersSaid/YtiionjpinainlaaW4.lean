/- Several texts in one: GL08b2, GL10d, GBr, GBr2, GL09k, GL09l, GL10e, GL06b, GL10f, GL10g, GL10h, GL10i, GL09m, GL09n, GL09o, GL09p, GBr3, GL09q, GL09r, GL10j, GL10k, GL11a, GL11t, GL11u, GL11b. -/
import Derived.Test.YtiionjpinainlaaW1
import Derived.Test.YtiionjpinainlaaW3
import Derived.Test.YtiionjpinainlaaFrame
import Derived.Test.YtiionjpinainlaaMC
import Derived.Test.YtiionjpinainlaaW2
import Derived.Deep.Slices
import Derived.Deep.Fields
import Derived.ChangeSame
/- Layer 8 by the interpreter: isChoice, sumOver, Meets, Span, Dead. -/
section
namespace Go.Proofs.Ytiionjpinainlaa
set_option linter.unusedVariables false
set_option linter.unusedSimpArgs false
set_option linter.unnecessarySimpa false
set_option linter.unusedSectionVars false
set_option maxRecDepth 10000

theorem dead_ok (P : Prog) (st : List Int) (hP : Fits P) (hs : st.length ≤ 1000000) : Good Try.prog TT false 67 [progV P, ints st] (· = .int .i64 (deadF P st)) := by
  have L : (P.costs.map encI).length = P.costs.length := List.length_map ..
  have LR : (P.rows.map encRow).length = P.rows.length := List.length_map ..
  obtain ⟨hp1, hp2, hp3⟩ := hP
  refine good_of mixed tabOk Try.func67 rfl rfl Try.ntmps67 Try.results67 rfl rfl ?_
  (conv => whnf); (repeat (first | (refine arith_i ⟨by omega, by omega⟩ ?_; conv => whnf) | (refine need_i (by first | omega | (simp only [List.length_append, List.length_cons, List.length_nil]; omega)) ?_; conv => whnf) | ((with_reducible refine branch_tt ?_); conv => whnf) | ((with_reducible refine branch_ff ?_); conv => whnf) | (with_reducible refine branch_not ?_) | ((with_reducible refine slc_e ?_); conv => whnf) | ((with_reducible refine callS_a ?_); conv => whnf) | ((with_reducible refine bld_a ?_); conv => whnf) | ((with_reducible refine own_e ?_); conv => whnf) | ((with_reducible refine mkmap_b ?_); conv => whnf)))
  refine call_e (valid_ok P hp1 hp2 hp3) ?_
  (conv => whnf); (repeat (first | (refine arith_i ⟨by omega, by omega⟩ ?_; conv => whnf) | (refine need_i (by first | omega | (simp only [List.length_append, List.length_cons, List.length_nil]; omega)) ?_; conv => whnf) | ((with_reducible refine branch_tt ?_); conv => whnf) | ((with_reducible refine branch_ff ?_); conv => whnf) | (with_reducible refine branch_not ?_) | ((with_reducible refine slc_e ?_); conv => whnf) | ((with_reducible refine callS_a ?_); conv => whnf) | ((with_reducible refine bld_a ?_); conv => whnf) | ((with_reducible refine own_e ?_); conv => whnf) | ((with_reducible refine mkmap_b ?_); conv => whnf)))
  cases hv : validB P with
  | false =>
    (conv => whnf); (repeat (first | (refine arith_i ⟨by omega, by omega⟩ ?_; conv => whnf) | (refine need_i (by first | omega | (simp only [List.length_append, List.length_cons, List.length_nil]; omega)) ?_; conv => whnf) | ((with_reducible refine branch_tt ?_); conv => whnf) | ((with_reducible refine branch_ff ?_); conv => whnf) | (with_reducible refine branch_not ?_) | ((with_reducible refine slc_e ?_); conv => whnf) | ((with_reducible refine callS_a ?_); conv => whnf) | ((with_reducible refine bld_a ?_); conv => whnf) | ((with_reducible refine own_e ?_); conv => whnf) | ((with_reducible refine mkmap_b ?_); conv => whnf)))
    exact ret_p rfl (int_eq (by simp [deadF, deadB, hv]))
  | true =>
    (conv => whnf); (repeat (first | (refine arith_i ⟨by omega, by omega⟩ ?_; conv => whnf) | (refine need_i (by first | omega | (simp only [List.length_append, List.length_cons, List.length_nil]; omega)) ?_; conv => whnf) | ((with_reducible refine branch_tt ?_); conv => whnf) | ((with_reducible refine branch_ff ?_); conv => whnf) | (with_reducible refine branch_not ?_) | ((with_reducible refine slc_e ?_); conv => whnf) | ((with_reducible refine callS_a ?_); conv => whnf) | ((with_reducible refine bld_a ?_); conv => whnf) | ((with_reducible refine own_e ?_); conv => whnf) | ((with_reducible refine mkmap_b ?_); conv => whnf)))
    rw [L]
    refine call_e (isState_ok st P.costs.length hs hp1) ?_
    (conv => whnf); (repeat (first | (refine arith_i ⟨by omega, by omega⟩ ?_; conv => whnf) | (refine need_i (by first | omega | (simp only [List.length_append, List.length_cons, List.length_nil]; omega)) ?_; conv => whnf) | ((with_reducible refine branch_tt ?_); conv => whnf) | ((with_reducible refine branch_ff ?_); conv => whnf) | (with_reducible refine branch_not ?_) | ((with_reducible refine slc_e ?_); conv => whnf) | ((with_reducible refine callS_a ?_); conv => whnf) | ((with_reducible refine bld_a ?_); conv => whnf) | ((with_reducible refine own_e ?_); conv => whnf) | ((with_reducible refine mkmap_b ?_); conv => whnf)))
    cases hc : isStateB st P.costs.length with
    | false =>
      (conv => whnf); (repeat (first | (refine arith_i ⟨by omega, by omega⟩ ?_; conv => whnf) | (refine need_i (by first | omega | (simp only [List.length_append, List.length_cons, List.length_nil]; omega)) ?_; conv => whnf) | ((with_reducible refine branch_tt ?_); conv => whnf) | ((with_reducible refine branch_ff ?_); conv => whnf) | (with_reducible refine branch_not ?_) | ((with_reducible refine slc_e ?_); conv => whnf) | ((with_reducible refine callS_a ?_); conv => whnf) | ((with_reducible refine bld_a ?_); conv => whnf) | ((with_reducible refine own_e ?_); conv => whnf) | ((with_reducible refine mkmap_b ?_); conv => whnf)))
      exact ret_p rfl (int_eq (by simp [deadF, deadB, hc]))
    | true =>
      (conv => whnf); (repeat (first | (refine arith_i ⟨by omega, by omega⟩ ?_; conv => whnf) | (refine need_i (by first | omega | (simp only [List.length_append, List.length_cons, List.length_nil]; omega)) ?_; conv => whnf) | ((with_reducible refine branch_tt ?_); conv => whnf) | ((with_reducible refine branch_ff ?_); conv => whnf) | (with_reducible refine branch_not ?_) | ((with_reducible refine slc_e ?_); conv => whnf) | ((with_reducible refine callS_a ?_); conv => whnf) | ((with_reducible refine bld_a ?_); conv => whnf) | ((with_reducible refine own_e ?_); conv => whnf) | ((with_reducible refine mkmap_b ?_); conv => whnf)))
      have hd : deadF P st = firstFrom st 0 P.rows := by simp [deadF, deadB, hv, hc]
      refine loop_i (fun k : Nat => k ≤ P.rows.length ∧ ∀ i, i < k → blockedB st (rowAt P.rows i) = false) (fun k => mkSt [(1, ints st), (22, rowsV P.rows), (23, .int .i64 (P.rows.map encRow).length), (24, .int .i64 k)] [] false) (fun k => P.rows.length - k) 0 ⟨Nat.zero_le _, nofun⟩ (le_mk ⟨rfl, rfl, rfl, rfl, trivial⟩ trivial rfl) ?_
      rintro j ⟨hj, hall⟩
      (conv => whnf); (repeat (first | (refine arith_i ⟨by omega, by omega⟩ ?_; conv => whnf) | (refine need_i (by first | omega | (simp only [List.length_append, List.length_cons, List.length_nil]; omega)) ?_; conv => whnf) | ((with_reducible refine branch_tt ?_); conv => whnf) | ((with_reducible refine branch_ff ?_); conv => whnf) | (with_reducible refine branch_not ?_) | ((with_reducible refine slc_e ?_); conv => whnf) | ((with_reducible refine callS_a ?_); conv => whnf) | ((with_reducible refine bld_a ?_); conv => whnf) | ((with_reducible refine own_e ?_); conv => whnf) | ((with_reducible refine mkmap_b ?_); conv => whnf)))
      refine branch_d (fun h => ?_) (fun h => ?_)
      · (conv => whnf); (repeat (first | (refine arith_i ⟨by omega, by omega⟩ ?_; conv => whnf) | (refine need_i (by first | omega | (simp only [List.length_append, List.length_cons, List.length_nil]; omega)) ?_; conv => whnf) | ((with_reducible refine branch_tt ?_); conv => whnf) | ((with_reducible refine branch_ff ?_); conv => whnf) | (with_reducible refine branch_not ?_) | ((with_reducible refine slc_e ?_); conv => whnf) | ((with_reducible refine callS_a ?_); conv => whnf) | ((with_reducible refine bld_a ?_); conv => whnf) | ((with_reducible refine own_e ?_); conv => whnf) | ((with_reducible refine mkmap_b ?_); conv => whnf)))
        refine idx_m (by omega) (by omega) fun r hr => ?_
        rw [Int.toNat_natCast] at hr
        have hrow := rowAt_eq hr
        have hm := List.mem_of_getElem? hr
        have hit : blockedB st r = true → AV.int .i64 (j : Int) = .int .i64 (deadF P st) := fun hb => int_eq (by
          rw [hd, firstFrom_at P.rows 0 j (by omega) hall (by rw [hrow]; exact hb)]; omega)
        (conv => whnf); (repeat (first | (refine arith_i ⟨by omega, by omega⟩ ?_; conv => whnf) | (refine need_i (by first | omega | (simp only [List.length_append, List.length_cons, List.length_nil]; omega)) ?_; conv => whnf) | ((with_reducible refine branch_tt ?_); conv => whnf) | ((with_reducible refine branch_ff ?_); conv => whnf) | (with_reducible refine branch_not ?_) | ((with_reducible refine slc_e ?_); conv => whnf) | ((with_reducible refine callS_a ?_); conv => whnf) | ((with_reducible refine bld_a ?_); conv => whnf) | ((with_reducible refine own_e ?_); conv => whnf) | ((with_reducible refine mkmap_b ?_); conv => whnf)))
        refine call_e (span_ok r.coefs st r.least r.most (hp3 r hm) hs) ?_
        (conv => whnf); (repeat (first | (refine arith_i ⟨by omega, by omega⟩ ?_; conv => whnf) | (refine need_i (by first | omega | (simp only [List.length_append, List.length_cons, List.length_nil]; omega)) ?_; conv => whnf) | ((with_reducible refine branch_tt ?_); conv => whnf) | ((with_reducible refine branch_ff ?_); conv => whnf) | (with_reducible refine branch_not ?_) | ((with_reducible refine slc_e ?_); conv => whnf) | ((with_reducible refine callS_a ?_); conv => whnf) | ((with_reducible refine bld_a ?_); conv => whnf) | ((with_reducible refine own_e ?_); conv => whnf) | ((with_reducible refine mkmap_b ?_); conv => whnf)))
        have hok : spanB r.coefs st = true := by have := spanB_of hv hc (show j < P.rows.length by omega); rwa [hrow] at this
        rw [hok]
        (conv => whnf); (repeat (first | (refine arith_i ⟨by omega, by omega⟩ ?_; conv => whnf) | (refine need_i (by first | omega | (simp only [List.length_append, List.length_cons, List.length_nil]; omega)) ?_; conv => whnf) | ((with_reducible refine branch_tt ?_); conv => whnf) | ((with_reducible refine branch_ff ?_); conv => whnf) | (with_reducible refine branch_not ?_) | ((with_reducible refine slc_e ?_); conv => whnf) | ((with_reducible refine callS_a ?_); conv => whnf) | ((with_reducible refine bld_a ?_); conv => whnf) | ((with_reducible refine own_e ?_); conv => whnf) | ((with_reducible refine mkmap_b ?_); conv => whnf)))
        refine branch_d (fun h1 => ?_) (fun h1 => ?_)
        · (conv => whnf); (repeat (first | (refine arith_i ⟨by omega, by omega⟩ ?_; conv => whnf) | (refine need_i (by first | omega | (simp only [List.length_append, List.length_cons, List.length_nil]; omega)) ?_; conv => whnf) | ((with_reducible refine branch_tt ?_); conv => whnf) | ((with_reducible refine branch_ff ?_); conv => whnf) | (with_reducible refine branch_not ?_) | ((with_reducible refine slc_e ?_); conv => whnf) | ((with_reducible refine callS_a ?_); conv => whnf) | ((with_reducible refine bld_a ?_); conv => whnf) | ((with_reducible refine own_e ?_); conv => whnf) | ((with_reducible refine mkmap_b ?_); conv => whnf)))
          exact ret_p rfl (hit (by simp [blockedB, hok]; omega))
        · (conv => whnf); (repeat (first | (refine arith_i ⟨by omega, by omega⟩ ?_; conv => whnf) | (refine need_i (by first | omega | (simp only [List.length_append, List.length_cons, List.length_nil]; omega)) ?_; conv => whnf) | ((with_reducible refine branch_tt ?_); conv => whnf) | ((with_reducible refine branch_ff ?_); conv => whnf) | (with_reducible refine branch_not ?_) | ((with_reducible refine slc_e ?_); conv => whnf) | ((with_reducible refine callS_a ?_); conv => whnf) | ((with_reducible refine bld_a ?_); conv => whnf) | ((with_reducible refine own_e ?_); conv => whnf) | ((with_reducible refine mkmap_b ?_); conv => whnf)))
          refine branch_d (fun h2 => ?_) (fun h2 => ?_)
          · (conv => whnf); (repeat (first | (refine arith_i ⟨by omega, by omega⟩ ?_; conv => whnf) | (refine need_i (by first | omega | (simp only [List.length_append, List.length_cons, List.length_nil]; omega)) ?_; conv => whnf) | ((with_reducible refine branch_tt ?_); conv => whnf) | ((with_reducible refine branch_ff ?_); conv => whnf) | (with_reducible refine branch_not ?_) | ((with_reducible refine slc_e ?_); conv => whnf) | ((with_reducible refine callS_a ?_); conv => whnf) | ((with_reducible refine bld_a ?_); conv => whnf) | ((with_reducible refine own_e ?_); conv => whnf) | ((with_reducible refine mkmap_b ?_); conv => whnf)))
            exact ret_p rfl (hit (by simp [blockedB, hok]; omega))
          · (conv => whnf); (repeat (first | (refine arith_i ⟨by omega, by omega⟩ ?_; conv => whnf) | (refine need_i (by first | omega | (simp only [List.length_append, List.length_cons, List.length_nil]; omega)) ?_; conv => whnf) | ((with_reducible refine branch_tt ?_); conv => whnf) | ((with_reducible refine branch_ff ?_); conv => whnf) | (with_reducible refine branch_not ?_) | ((with_reducible refine slc_e ?_); conv => whnf) | ((with_reducible refine callS_a ?_); conv => whnf) | ((with_reducible refine bld_a ?_); conv => whnf) | ((with_reducible refine own_e ?_); conv => whnf) | ((with_reducible refine mkmap_b ?_); conv => whnf)))
            refine branch_d (fun h3 => ?_) (fun h3 => ?_)
            · (conv => whnf); (repeat (first | (refine arith_i ⟨by omega, by omega⟩ ?_; conv => whnf) | (refine need_i (by first | omega | (simp only [List.length_append, List.length_cons, List.length_nil]; omega)) ?_; conv => whnf) | ((with_reducible refine branch_tt ?_); conv => whnf) | ((with_reducible refine branch_ff ?_); conv => whnf) | (with_reducible refine branch_not ?_) | ((with_reducible refine slc_e ?_); conv => whnf) | ((with_reducible refine callS_a ?_); conv => whnf) | ((with_reducible refine bld_a ?_); conv => whnf) | ((with_reducible refine own_e ?_); conv => whnf) | ((with_reducible refine mkmap_b ?_); conv => whnf)))
              exact ret_p rfl (hit (by simp [blockedB, hok]; omega))
            · (conv => whnf); (repeat (first | (refine arith_i ⟨by omega, by omega⟩ ?_; conv => whnf) | (refine need_i (by first | omega | (simp only [List.length_append, List.length_cons, List.length_nil]; omega)) ?_; conv => whnf) | ((with_reducible refine branch_tt ?_); conv => whnf) | ((with_reducible refine branch_ff ?_); conv => whnf) | (with_reducible refine branch_not ?_) | ((with_reducible refine slc_e ?_); conv => whnf) | ((with_reducible refine callS_a ?_); conv => whnf) | ((with_reducible refine bld_a ?_); conv => whnf) | ((with_reducible refine own_e ?_); conv => whnf) | ((with_reducible refine mkmap_b ?_); conv => whnf)))
              refine ⟨j + 1, ⟨by omega, fun i hi => ?_⟩, le_mk ⟨rfl, rfl, rfl, rfl, trivial⟩ trivial rfl, by omega⟩
              rcases Nat.lt_or_ge i j with h' | h'
              · exact hall i h'
              · obtain rfl : i = j := by omega
                rw [hrow]
                simp [blockedB, hok]
                omega
      · (conv => whnf); (repeat (first | (refine arith_i ⟨by omega, by omega⟩ ?_; conv => whnf) | (refine need_i (by first | omega | (simp only [List.length_append, List.length_cons, List.length_nil]; omega)) ?_; conv => whnf) | ((with_reducible refine branch_tt ?_); conv => whnf) | ((with_reducible refine branch_ff ?_); conv => whnf) | (with_reducible refine branch_not ?_) | ((with_reducible refine slc_e ?_); conv => whnf) | ((with_reducible refine callS_a ?_); conv => whnf) | ((with_reducible refine bld_a ?_); conv => whnf) | ((with_reducible refine own_e ?_); conv => whnf) | ((with_reducible refine mkmap_b ?_); conv => whnf)))
        exact ret_p rfl (int_eq (by rw [hd, firstFrom_none P.rows 0 (fun i hi => hall i (by omega))]))
end Go.Proofs.Ytiionjpinainlaa
end

/- Layer 10: the certificate's tree. -/
section
namespace Go.Proofs.Ytiionjpinainlaa
set_option linter.unusedVariables false
set_option linter.unusedSimpArgs false
set_option linter.unnecessarySimpa false
set_option linter.unusedSectionVars false
set_option maxRecDepth 10000
open Go.RowKit
def plGL10d_0 : Plan := (.take 0 (.take 1 (.take 2 (.take 3 (.take 4 (.take 5 (.take 6 (.take 7 (.altE 8 (.take 9 (.take 10 (.altE 11 .done .stop))) .stop)))))))))
def plGL10d_1 : Plan := (.take 1 (.take 3 (.take 4 (.take 5 (.alt 0 (.take 6 (.take 7 (.alt 2 (.alt 8 (.take 9 (.take 10 (.alt 11 .done .stop))) .stop) (.alt 8 (.alt 2 (.take 9 (.take 10 (.alt 11 .done .stop))) .stop) .stop)))) (.alt 2 (.alt 0 (.take 6 (.take 7 (.alt 8 (.take 9 (.take 10 (.alt 11 .done .stop))) .stop))) .stop) .stop))))))
def plainN : Nd := ⟨3, 0, 0, 0, -1, 0, 1⟩
def leafN (P : Prog) (f : Bool) (b : Int) (o : Nat) (st : List Int) : Option Nd :=
  if 0 ≤ deadF P st then some ⟨2, 0, 0, 0, deadF P st, 0, 0⟩ else if o = st.length ∨ (f = true ∧ b ≤ boundF P st plainN) then some plainN else none
def treeF (P : Prog) (f : Bool) (b : Int) : Nat → Nat → List Int → Nat → List Nd
  | 0, o, st, base => [(leafN P f b o st).getD plainN]
  | m + 1, o, st, base => match leafN P f b o st with
    | some n => [n]
    | none => ⟨1, o, (base + 1 : Nat), (base + 1 + (treeF P f b m (o + 1) (st.set o 0) (base + 1)).length : Nat), 0, 0, 0⟩ :: (treeF P f b m (o + 1) (st.set o 0) (base + 1) ++ treeF P f b m (o + 1) (st.set o 1) (base + 1 + (treeF P f b m (o + 1) (st.set o 0) (base + 1)).length))
theorem tree_len {P : Prog} {f : Bool} {b : Int} : ∀ {m o : Nat} {st : List Int} {base : Nat}, (treeF P f b m o st base).length ≤ 2 ^ (m + 1) - 1
  | 0, o, st, base => by simp [treeF]
  | m + 1, o, st, base => by
    rw [treeF]
    split
    · have := Nat.one_le_two_pow (n := m + 1); rw [Nat.pow_succ]; simp; omega
    · have h1 := tree_len (P := P) (f := f) (b := b) (m := m) (o := o + 1) (st := st.set o 0) (base := base + 1)
      have h2 := tree_len (P := P) (f := f) (b := b) (m := m) (o := o + 1) (st := st.set o 1) (base := base + 1 + (treeF P f b m (o + 1) (st.set o 0) (base + 1)).length)
      have := Nat.one_le_two_pow (n := m + 1)
      rw [Nat.pow_succ]
      simp only [List.length_cons, List.length_append]
      omega
theorem tree_leaf {P : Prog} {f : Bool} {b : Int} {m o : Nat} {st : List Int} {base : Nat} {n : Nd} (h : leafN P f b o st = some n) : treeF P f b m o st base = [n] := by
  cases m with
  | zero => simp [treeF, h]
  | succ m => simp [treeF, h]
def growA : List AV := [.ptr 1000 0, .ptr 1001 0, .ptr 1002 0, .ptr 1003 0, .ptr 1004 0, .ptr 1005 0, .ptr 1006 0]
def gBx (P : Prog) (f : Bool) (b : Int) (st : List Int) (ns : List Nd) : List (Nat × List AV) := [(1000, [.own 1100 106 7 (ns.map encN)]), (1001, [ints P.costs, rowsV P.rows]), (1002, [.own 1102 3 1 (st.map encI)]), (1003, [.int .i64 3, .int .i64 0, .int .i64 0, .int .i64 0, .int .i64 (-1), .int .i64 0, .int .i64 1]), (1004, [.bool f]), (1005, [.int .i64 b]), (1006, [.fn 66 growA])]
theorem bound_plain {P : Prog} {st : List Int} (hv : validB P = true) (hs : stOB st P.costs.length = true) : boundV P st plainN = .tup [.int .i64 (boundF P st plainN), .bool true] := by
  have : okB P st plainN = true := by simp [okB, hv, hs, bndB, plainN]
  rw [boundV, this]
  rfl
theorem fits_of {P : Prog} (hv : validB P = true) : Fits P := by
  have h := validB_parts hv
  exact ⟨by omega, by omega, fun r hr => by have := (valid_rows hv hr).1; omega⟩
theorem snoc7 {xs : List Nd} {a b c d e f g : Int} : xs.map encN ++ [[AV.int .i64 a, AV.int .i64 b, AV.int .i64 c, AV.int .i64 d, AV.int .i64 e, AV.int .i64 f, AV.int .i64 g]] = (xs ++ [(⟨a, b, c, d, e, f, g⟩ : Nd)]).map encN := by simp [encN]
theorem un_set {st : List Int} {n o : Nat} {x : Int} (h : ∀ j, o ≤ j → j < n → nth st j = -1) : ∀ j, o + 1 ≤ j → j < n → nth (st.set o x) j = -1 := fun j h1 h2 => by
  rw [nth_set, if_neg (by omega)]; exact h j (by omega) h2
theorem set_back {st : List Int} {o : Nat} {x : Int} (h : nth st o = -1) (ho : o < st.length) : (st.set o x).set o (-1) = st := by
  rw [List.set_set]
  refine nth_ext (by simp) fun j hj => ?_
  rw [nth_set]
  split
  · next e => rw [e.1, h]
  · rfl
theorem place_at {ns a b : List Nd} {x : Nd} : (ns ++ [x] ++ a ++ b)[(((ns.map encN).length : Nat) : Int).toNat]? = some x := by
  rw [List.length_map, Int.toNat_natCast, List.append_assoc, List.append_assoc, List.getElem?_append_right (Nat.le_refl _), Nat.sub_self]
  rfl
theorem mod_at {ns a b : List Nd} {x : Nd} {g : Nd → Nd} : (ns ++ [x] ++ a ++ b).modify ns.length g = ns ++ [g x] ++ a ++ b := by
  rw [List.append_assoc, List.append_assoc, List.append_assoc, List.append_assoc]
  induction ns with
  | nil => rfl
  | cons y ns ih =>
    rw [List.cons_append, List.length_cons, List.modify_succ_cons, ih]
    rfl
theorem idx_modS {es : List (List AV)} {i : Nat} {f : List AV → List AV} {n : Int} {K : List AV → Prop} {cs : List AV} (h0 : 0 ≤ n) (hi : n.toNat = i) (h : es[i]? = some cs) (k : K (f cs)) : idx (es.modify i f) n K := by
  refine idx_i h0 ?_ k
  rw [hi, List.getElem?_modify, h]
  simp
theorem place_enc {ns a b : List Nd} {x : Nd} : ((ns ++ [x] ++ a ++ b).map encN)[(ns.map encN).length]? = some (encN x) := by
  have := place_at (ns := ns) (a := a) (b := b) (x := x)
  rw [Int.toNat_natCast] at this
  rw [List.getElem?_map, this]
  rfl
set_option maxHeartbeats 4000000 in
theorem grow_ok (P : Prog) (f : Bool) (b : Int) (hv : validB P = true) : ∀ (m o : Nat) (st : List Int) (ns : List Nd), m = P.costs.length - o → o ≤ P.costs.length → stOB st P.costs.length = true → (∀ j, o ≤ j → j < P.costs.length → nth st j = -1) → ns.length + 2 ^ (m + 1) ≤ 100000 →
    GoodM Try.prog TT false 66 (.int .i64 o :: growA) (gBx P f b st ns) (fun r ov bx => r = .int .i64 ns.length ∧ ov = [] ∧ bx = gBx P f b st (ns ++ treeF P f b m o st ns.length)) := by
  have hcl := (validB_parts hv).1
  have hfit := fits_of hv
  intro m
  induction m with
  | zero =>
    intro o st ns hm ho hst hun hns
    have hsl := st_len hst
    have LS : (st.map encI).length = st.length := List.length_map ..
    have LN : (ns.map encN).length = ns.length := List.length_map ..
    have hoe : o = st.length := by omega
    refine good_of_m (fun _ => false) mixed tabOk Try.func66 rfl rfl Try.ntmps66 Try.results66 rfl rfl ?_
    (conv => whnf); (repeat' (first | (refine arith_i ⟨by omega, by omega⟩ ?_; conv => whnf) | (refine arith_u ⟨by omega, by omega⟩ ?_; conv => whnf) | (refine arith_8 ⟨by omega, by omega⟩ ?_; conv => whnf) | (refine need_i (by first | omega | (simp only [List.length_cons, List.length_nil]; omega) | (simp only [List.length_append, List.length_cons, List.length_nil, List.length_map, List.length_replicate, List.length_modify]; omega)) ?_; conv => whnf) | ((with_reducible refine branch_tt ?_); conv => whnf) | ((with_reducible refine branch_ff ?_); conv => whnf) | (with_reducible refine branch_not ?_) | ((refine call_e (dead_ok P st hfit (by omega)) ?_); conv => whnf) | ((refine call_e ((bound_ok P st plainN hfit (by omega)).mono fun r h => h.trans (bound_plain hv hst)) ?_); conv => whnf) | ((simp only [snoc7]); conv => whnf) | ((with_reducible refine slc_e ?_); conv => whnf) | ((with_reducible refine callS_a ?_); conv => whnf) | ((with_reducible refine bld_a ?_); conv => whnf) | ((with_reducible refine own_e ?_); conv => whnf) | ((with_reducible refine mkmap_b ?_); conv => whnf) | (refine draw_i 12 plGL10d_0 (by decide +kernel) ?_; (conv => whnf); fail_if_success (guard_target =~ False)) | (refine draw_i 0 plGL10d_1 (by decide +kernel) ?_; (conv => whnf); fail_if_success (guard_target =~ False)) | ((with_reducible refine And.intro ?_ ?_) <;> (conv => whnf)) | (with_reducible exact trivial) | ((with_reducible refine branch_d (fun hq => ?_) (fun hq => ?_)) <;> (try (exfalso; omega)) <;> (conv => whnf)) | ((with_reducible refine branch_e (fun hq => ?_) (fun hq => ?_)) <;> (try (exfalso; omega)) <;> (conv => whnf)) | ((with_reducible refine branch_n (fun hq => ?_) (fun hq => ?_)) <;> (try (exfalso; omega)) <;> (conv => whnf)) | ((with_reducible refine branch_i (fun hq => ?_) (fun hq => ?_)) <;> (try (exfalso; omega)) <;> (conv => whnf))))
    all_goals first
      | (have hlf : leafN P f b o st = some ⟨2, 0, 0, 0, deadF P st, 0, 0⟩ := by rw [leafN, if_pos (by assumption)]
         rw [tree_leaf hlf]
         exact retM_i (.int .i64 ns.length) [] (gBx P f b st (ns ++ [⟨2, 0, 0, 0, deadF P st, 0, 0⟩])) rfl (le_mk ⟨by rw [← LN]; rfl, trivial⟩ ⟨rfl, rfl, rfl, rfl, rfl, rfl, rfl, trivial⟩ rfl) rfl ⟨rfl, rfl, rfl⟩)
      | (have hlf : leafN P f b o st = some plainN := by rw [leafN, if_neg (by assumption), if_pos (.inl hoe)]
         rw [tree_leaf hlf]
         exact retM_i (.int .i64 ns.length) [] (gBx P f b st (ns ++ [plainN])) rfl (le_mk ⟨by rw [← LN]; rfl, trivial⟩ ⟨rfl, rfl, rfl, rfl, rfl, rfl, rfl, trivial⟩ rfl) rfl ⟨rfl, rfl, rfl⟩)
  | succ m IH =>
    intro o st ns hm ho hst hun hns
    have hsl := st_len hst
    have LS : (st.map encI).length = st.length := List.length_map ..
    have LN : (ns.map encN).length = ns.length := List.length_map ..
    have h2 := Nat.one_le_two_pow (n := m + 1)
    rw [Nat.pow_succ] at hns
    refine good_of_m (fun _ => false) mixed tabOk Try.func66 rfl rfl Try.ntmps66 Try.results66 rfl rfl ?_
    have hIH := fun (x : Int) (ns' : List Nd) (h : -1 ≤ x ∧ x ≤ 1) (h' : ns'.length + 2 ^ (m + 1) ≤ 100000) (ho' : o < P.costs.length) => IH (o + 1) (st.set o x) ns' (by omega) (by omega) (stO_set hst h) (un_set hun) h'
    obtain ⟨n1, hn1⟩ : ∃ n1 : Nd, n1 = ⟨1, o, 0, 0, 0, 0, 0⟩ := ⟨_, rfl⟩
    obtain ⟨ns1, hns1⟩ : ∃ l, l = ns ++ [(⟨1, o, 0, 0, 0, 0, 0⟩ : Nd)] := ⟨_, rfl⟩
    have L1 : ns1.length = ns.length + 1 := by rw [hns1]; simp
    obtain ⟨z, hz⟩ : ∃ l, l = treeF P f b m (o + 1) (st.set o 0) ns1.length := ⟨_, rfl⟩
    have Lz : z.length ≤ 2 ^ (m + 1) - 1 := by rw [hz]; exact tree_len
    obtain ⟨ns2, hns2⟩ : ∃ l, l = ns1 ++ z := ⟨_, rfl⟩
    have L2 : ns2.length = ns1.length + z.length := by rw [hns2]; simp
    have hI1 := fun ho' => hIH 0 ns1 (by omega) (by omega) ho'
    have hI2 := fun ho' => hIH 1 ns2 (by omega) (by omega) ho'
    rw [← hz, ← hns2] at hI1
    (conv => whnf); (repeat' (first | (refine arith_i ⟨by omega, by omega⟩ ?_; conv => whnf) | (refine arith_u ⟨by omega, by omega⟩ ?_; conv => whnf) | (refine arith_8 ⟨by omega, by omega⟩ ?_; conv => whnf) | (refine need_i (by first | omega | (simp only [List.length_cons, List.length_nil]; omega) | (simp only [List.length_append, List.length_cons, List.length_nil, List.length_map, List.length_replicate, List.length_modify]; omega)) ?_; conv => whnf) | ((with_reducible refine branch_tt ?_); conv => whnf) | ((with_reducible refine branch_ff ?_); conv => whnf) | (with_reducible refine branch_not ?_) | ((refine call_e (dead_ok P st hfit (by omega)) ?_); conv => whnf) | ((refine call_e ((bound_ok P st plainN hfit (by omega)).mono fun r h => h.trans (bound_plain hv hst)) ?_); conv => whnf) | (((refine idx_m (xs := st) (by omega) (by omega) fun y hy => ?_)); conv => whnf) | ((simp only [snoc7, Int.toNat_natCast, ← hns1]); conv => whnf) | ((refine mcall_e [(1000, 1000), (1001, 1001), (1002, 1002), (1003, 1003), (1004, 1004), (1005, 1005), (1006, 1006)] [(1100, 1100), (1102, 1102)] (hI1 (by omega)) rfl rfl rfl ⟨⟨_, rfl, rfl, rfl⟩, ⟨_, rfl, rfl, rfl⟩, ⟨_, rfl, by rw [← encI_set (xs := st) (k := o) (y := 0)]; rfl, rfl⟩, ⟨_, rfl, rfl, rfl⟩, ⟨_, rfl, rfl, rfl⟩, ⟨_, rfl, rfl, rfl⟩, ⟨_, rfl, rfl, rfl⟩, trivial⟩ rfl ?_); conv => whnf) | ((refine mcall_e [(1000, 1000), (1001, 1001), (1002, 1002), (1003, 1003), (1004, 1004), (1005, 1005), (1006, 1006)] [(1100, 1100), (1102, 1102)] (hI2 (by omega)) rfl rfl rfl ⟨⟨_, rfl, rfl, rfl⟩, ⟨_, rfl, rfl, rfl⟩, ⟨_, rfl, by rw [show st.set o 1 = (st.set o 0).set o 1 by rw [List.set_set], ← encI_set (xs := st.set o 0) (k := o) (y := 1)]; rfl, rfl⟩, ⟨_, rfl, rfl, rfl⟩, ⟨_, rfl, rfl, rfl⟩, ⟨_, rfl, rfl, rfl⟩, ⟨_, rfl, rfl, rfl⟩, trivial⟩ rfl ?_); conv => whnf) | (((refine idx_m (xs := st.set o 0) (by omega) (by simp; omega) fun y hy => ?_)); conv => whnf) | (((refine idx_m (xs := st.set o 1) (by omega) (by simp; omega) fun y hy => ?_)); conv => whnf) | (((refine idx_ms (x := ⟨1, o, 0, 0, 0, 0, 0⟩) (by omega) (by rw [hns2, hns1]; exact place_at) ?_)); conv => whnf) | (((refine idx_modS (cs := encN ⟨1, o, 0, 0, 0, 0, 0⟩) (by omega) (by omega) (by rw [hns2, hns1]; exact place_enc) ?_)); conv => whnf) | ((with_reducible refine slc_e ?_); conv => whnf) | ((with_reducible refine callS_a ?_); conv => whnf) | ((with_reducible refine bld_a ?_); conv => whnf) | ((with_reducible refine own_e ?_); conv => whnf) | ((with_reducible refine mkmap_b ?_); conv => whnf) | (refine draw_i 12 plGL10d_0 (by decide +kernel) ?_; (conv => whnf); fail_if_success (guard_target =~ False)) | (refine draw_i 0 plGL10d_1 (by decide +kernel) ?_; (conv => whnf); fail_if_success (guard_target =~ False)) | ((with_reducible refine And.intro ?_ ?_) <;> (conv => whnf)) | (with_reducible exact trivial) | ((with_reducible refine branch_d (fun hq => ?_) (fun hq => ?_)) <;> (try (exfalso; omega)) <;> (conv => whnf)) | ((with_reducible refine branch_e (fun hq => ?_) (fun hq => ?_)) <;> (try (exfalso; omega)) <;> (conv => whnf)) | ((with_reducible refine branch_n (fun hq => ?_) (fun hq => ?_)) <;> (try (exfalso; omega)) <;> (conv => whnf)) | ((with_reducible refine branch_i (fun hq => ?_) (fun hq => ?_)) <;> (try (exfalso; omega)) <;> (conv => whnf))))
    all_goals first
      | (have hlf : leafN P f b o st = some ⟨2, 0, 0, 0, deadF P st, 0, 0⟩ := by rw [leafN, if_pos (by assumption)]
         rw [tree_leaf hlf]
         exact retM_i (.int .i64 ns.length) [] (gBx P f b st (ns ++ [⟨2, 0, 0, 0, deadF P st, 0, 0⟩])) rfl (le_mk ⟨by rw [← LN]; rfl, trivial⟩ ⟨rfl, rfl, rfl, rfl, rfl, rfl, rfl, trivial⟩ rfl) rfl ⟨rfl, rfl, rfl⟩)
      | (have hlf : leafN P f b o st = some plainN := by rw [leafN, if_neg (by assumption), if_pos (.inr ⟨by assumption, by assumption⟩)]
         rw [tree_leaf hlf]
         exact retM_i (.int .i64 ns.length) [] (gBx P f b st (ns ++ [plainN])) rfl (le_mk ⟨by rw [← LN]; rfl, trivial⟩ ⟨rfl, rfl, rfl, rfl, rfl, rfl, rfl, trivial⟩ rfl) rfl ⟨rfl, rfl, rfl⟩)
      | (have hlf : leafN P f b o st = none := by
           rw [leafN, if_neg (by assumption), if_neg]
           rintro (h | ⟨h, h'⟩)
           · omega
           · simp_all
         have hfin : ns ++ treeF P f b (m + 1) o st ns.length = ((ns2 ++ treeF P f b m (o + 1) (st.set o 1) ns2.length).modify ns.length (fun n => { n with zero := ns1.length })).modify ns.length (fun n => { n with one := ns2.length }) := by
           rw [treeF, hlf, hns2, hns1, mod_at, mod_at]
           simp only
           rw [← hns1, ← L1, ← hz, ← L2, hns2]
           simp
         have hback := set_back (x := 1) (hun o (Nat.le_refl _) (by omega)) (show o < st.length by omega)
         rw [hfin]
         refine retM_i (.int .i64 ns.length) [] (gBx P f b st (((ns2 ++ treeF P f b m (o + 1) (st.set o 1) ns2.length).modify ns.length (fun n => { n with zero := ns1.length })).modify ns.length (fun n => { n with one := ns2.length }))) rfl (le_mk ⟨by rw [← LN]; rfl, trivial⟩ ⟨?_, rfl, ?_, rfl, rfl, rfl, rfl, trivial⟩ rfl) rfl ⟨rfl, rfl, rfl⟩
         · rw [← map_modify (enc := encN) (f := fun c => c.set 3 (.int .i64 ns2.length)) (fun x => rfl), ← map_modify (enc := encN) (f := fun c => c.set 2 (.int .i64 ns1.length)) (fun x => rfl), ← LN]
           rfl
         · conv => rhs; rw [← hback]
           rw [← encI_set (xs := st.set o 1) (k := o) (y := -1)]
           rfl)
/-- The certificate. -/
def certF (P : Prog) (f : Bool) (b : Int) : List Nd := treeF P f b P.costs.length 0 (List.replicate P.costs.length (-1)) 0
set_option maxHeartbeats 4000000 in
theorem cert_ok (P : Prog) (f : Bool) (b : Int) (hv : validB P = true) : Good Try.prog TT false 36 [progV P, .bool f, .int .i64 b] (· = ndsV (certF P f b)) := by
  have hcl := (validB_parts hv).1
  have LC : (P.costs.map encI).length = P.costs.length := List.length_map ..
  have hpow : 2 ^ (P.costs.length + 1) ≤ 2 ^ 13 := Nat.pow_le_pow_right (by omega) (by omega)
  have hg := grow_ok P f b hv P.costs.length 0 (List.replicate P.costs.length (-1)) [] (by omega) (by omega) (by simp [stOB, tri9]) (fun j _ h => by simp [nth, List.getD_eq_getElem?_getD, h]) (by simp; omega)
  refine good_of mixed tabOk Try.func36 rfl rfl Try.ntmps36 Try.results36 rfl rfl ?_
  (conv => whnf); (repeat' (first | (refine arith_i ⟨by omega, by omega⟩ ?_; conv => whnf) | (refine arith_u ⟨by omega, by omega⟩ ?_; conv => whnf) | (refine arith_8 ⟨by omega, by omega⟩ ?_; conv => whnf) | (refine need_i (by first | omega | (simp only [List.length_cons, List.length_nil]; omega) | (simp only [List.length_append, List.length_cons, List.length_nil, List.length_map, List.length_replicate, List.length_modify]; omega)) ?_; conv => whnf) | ((with_reducible refine branch_tt ?_); conv => whnf) | ((with_reducible refine branch_ff ?_); conv => whnf) | (with_reducible refine branch_not ?_) | (((rw [LC]; refine call_e (repeat_ok P.costs.length hcl) ?_)); conv => whnf) | (((refine mcall_i [(1000, 9), (1001, 3), (1002, 7), (1003, 8), (1004, 4), (1005, 5), (1006, 10)] [(1100, 1100), (1102, 15)] _ (le_adoptBox 9 0 1100 106 7 rfl rfl) hg rfl rfl rfl ⟨⟨_, rfl, rfl, rfl⟩, ⟨_, rfl, rfl, rfl⟩, ⟨_, rfl, rfl, rfl⟩, ⟨_, rfl, rfl, rfl⟩, ⟨_, rfl, rfl, rfl⟩, ⟨_, rfl, rfl, rfl⟩, ⟨_, rfl, rfl, rfl⟩, trivial⟩ ?_; rintro r ov bx' ⟨rfl, rfl, rfl⟩; refine ⟨rfl, ?_⟩)); conv => whnf) | ((with_reducible refine slc_e ?_); conv => whnf) | ((with_reducible refine callS_a ?_); conv => whnf) | ((with_reducible refine bld_a ?_); conv => whnf) | ((with_reducible refine own_e ?_); conv => whnf) | ((with_reducible refine mkmap_b ?_); conv => whnf) | ((with_reducible refine branch_d (fun hq => ?_) (fun hq => ?_)) <;> (try (exfalso; omega)) <;> (conv => whnf)) | ((with_reducible refine branch_e (fun hq => ?_) (fun hq => ?_)) <;> (try (exfalso; omega)) <;> (conv => whnf)) | ((with_reducible refine branch_n (fun hq => ?_) (fun hq => ?_)) <;> (try (exfalso; omega)) <;> (conv => whnf)) | ((with_reducible refine branch_i (fun hq => ?_) (fun hq => ?_)) <;> (try (exfalso; omega)) <;> (conv => whnf))))
  exact ret_ol rfl
/-! Solve and All -/
/-- What Solve returns. -/
def solveV (P : Prog) : AV := if validB P = true then .tup [.agg [.bool (bestF P).1, ints (bestF P).2.2, .int .i64 (bestF P).2.1, ndsV (certF P (bestF P).1 (bestF P).2.1)], .int .i64 0] else .tup [.agg [.bool false, ints [], .int .i64 0, .lst 7 []], .int .i64 1]
set_option maxHeartbeats 4000000 in
theorem solve_ok (P : Prog) (hP : Fits P) : Good Try.prog TT false 9 [progV P] (· = solveV P) := by
  refine good_of mixed tabOk Try.func9 rfl rfl Try.ntmps9 Try.results9 rfl rfl ?_
  (conv => whnf); (repeat' (first | (refine arith_i ⟨by omega, by omega⟩ ?_; conv => whnf) | (refine arith_u ⟨by omega, by omega⟩ ?_; conv => whnf) | (refine arith_8 ⟨by omega, by omega⟩ ?_; conv => whnf) | (refine need_i (by first | omega | (simp only [List.length_cons, List.length_nil]; omega) | (simp only [List.length_append, List.length_cons, List.length_nil, List.length_map, List.length_replicate, List.length_modify]; omega)) ?_; conv => whnf) | ((with_reducible refine branch_tt ?_); conv => whnf) | ((with_reducible refine branch_ff ?_); conv => whnf) | (with_reducible refine branch_not ?_) | ((refine call_e (valid_ok P hP.1 hP.2.1 hP.2.2) ?_); conv => whnf) | (((have hv : validB P = true := hq; refine mcall_i [(1010, 4)] [] _ (le_nilBox 4 1 1 rfl rfl) (eachS_ok P (false, 0, []) hv trivial) rfl rfl rfl ⟨⟨_, rfl, rfl, rfl⟩, trivial⟩ ?_; rintro r ov bx' ⟨rfl, rfl, rfl⟩; refine ⟨rfl, ?_⟩)); conv => whnf) | ((refine call_e (cert_ok P _ _ hv) ?_); conv => whnf) | ((with_reducible refine slc_e ?_); conv => whnf) | ((with_reducible refine callS_a ?_); conv => whnf) | ((with_reducible refine bld_a ?_); conv => whnf) | ((with_reducible refine own_e ?_); conv => whnf) | ((with_reducible refine mkmap_b ?_); conv => whnf) | ((with_reducible refine branch_d (fun hq => ?_) (fun hq => ?_)) <;> (try (exfalso; omega)) <;> (conv => whnf)) | ((with_reducible refine branch_e (fun hq => ?_) (fun hq => ?_)) <;> (try (exfalso; omega)) <;> (conv => whnf)) | ((with_reducible refine branch_n (fun hq => ?_) (fun hq => ?_)) <;> (try (exfalso; omega)) <;> (conv => whnf)) | ((with_reducible refine branch_i (fun hq => ?_) (fun hq => ?_)) <;> (try (exfalso; omega)) <;> (conv => whnf))))
  · exact ret_t (rs := [.agg [.bool (bestF P).1, ints (bestF P).2.2, .int .i64 (bestF P).2.1, ndsV (certF P (bestF P).1 (bestF P).2.1)], .int .i64 0]) ⟨.inr ⟨_, _, rfl, rfl, rc_p rfl, rc_p rfl, rc_p rfl, rc_p rfl, trivial⟩, (rc_p rfl).g, trivial⟩ (by rw [solveV, if_pos hq])
  · exact ret_t (rs := [.agg [.bool false, ints [], .int .i64 0, .lst 7 []], .int .i64 1]) ⟨.inr ⟨_, _, rfl, rfl, rc_p rfl, rc_n, rc_p rfl, rc_n, trivial⟩, (rc_p rfl).g, trivial⟩ (by rw [solveV, if_neg (by simp [hq])])
end Go.Proofs.Ytiionjpinainlaa
end

/- From a contract of the interpreter to a law's call. -/
section
namespace Go.Proofs.Ytiionjpinainlaa
set_option linter.unusedVariables false
set_option linter.unusedSimpArgs false
set_option linter.unnecessarySimpa false
set_option linter.unusedSectionVars false
open Go.RowKit

end Go.Proofs.Ytiionjpinainlaa
end

/- From a contract of the interpreter to a law's call: any arguments; slices of strings. -/
section
namespace Go.Proofs.Ytiionjpinainlaa
set_option linter.unusedVariables false
set_option linter.unusedSimpArgs false
set_option linter.unnecessarySimpa false
set_option linter.unusedSectionVars false
open Go.RowKit

theorem law_all {f : Nat} {args : List AV} (hG : Good Try.prog TT false f args (· = .bool true)) {w : World} {us : List Value} (h : All2 (RepV w No) args us) :
    Calls Try.prog f us.toArray w (fun e w' => e = .returned (.bool true) ∧ Chg No w w') := by
  have hx : ∀ b, GX (G0 none No (none, 0, 0)) b → False := fun b hb => by rcases hb with hb | hb <;> simp_all [GM, G0, No]
  refine Calls.mono (hG.2 w No none us (none, 0, 0) (fun b hb => absurd hb no_) rfl (h.mono fun v u hr => RC.ra (RepV.rc (RepV.move hr (fun _ _ _ => rfl) fun b _ hb => (hx b hb).elim))) nofun) ?_
  rintro e w' ⟨u, r, rfl, rfl, hr, hc, -⟩
  have hu : RepV w' (GX (G0 none No (none, 0, 0))) (.bool true) u := hr
  cases hu
  exact ⟨rfl, hc.mono fun b _ hb => by cases hb⟩
theorem row_rep {α : Type} {enc : α → List AV} {val : α → Value} {w : World} {x : Addr} {len cap : Nat} {zs : List α} {d : α} (h1 : ∀ z, enc z = [(enc z)[0]?.getD .undef]) (hr : ∀ z, RepV w No ((enc z)[0]?.getD .undef) (val z)) (hl : len ≤ cap) (hz : len ≤ zs.length)
    (hc : ∀ i, i < zs.length → w.cell? (x.add i) = some (val (zs.getD i d))) : RepV w No (.lst 1 ((zs.take len).map enc)) (.slice (some x) len cap) := by
  rcases Nat.eq_zero_or_pos len with h0 | h0
  · subst h0
    exact .nil 1 _ _
  · have h00 := hc 0 (by omega)
    have hx : (x.add 0) = x := by simp [Addr.add]
    rw [hx] at h00
    have hs := spot_of_cell h00
    obtain ⟨b, off, sp⟩ := x
    simp only at hs
    subst hs
    have hb := World.block_lt_of_cell? w _ h00
    have hlen : ((zs.take len).map enc).length = len := by simp; omega
    have key := RepV.lst (w := w) (X := No) (z := 1) (es := (zs.take len).map enc) (b := b) (off := off) (c := cap) (fun i _ => val (zs.getD i d)) (fun e => by rw [e] at hlen; simp at hlen; omega) (by rw [hlen]; exact hl) hb no_ (fun cs hcs => by
      obtain ⟨z, _, rfl⟩ := List.mem_map.1 hcs
      rw [h1]; rfl) (fun i j v hv => ?_) (fun i j v hv => ?_)
    · rwa [hlen] at key
    all_goals
      obtain ⟨ds, k1, k2⟩ := at2_some hv
      rw [List.getElem?_map, List.getElem?_take] at k1
      split at k1
      · next hi =>
        have hlt : i < zs.length := by omega
        rw [List.getElem?_eq_getElem hlt] at k1
        simp only [Option.map_some, Option.some.injEq] at k1
        subst k1
        rw [h1] at k2
        have hj : j = 0 := by have := (List.getElem?_eq_some_iff.1 k2).1; simpa using this
        subst hj
        simp only [List.getElem?_cons_zero, Option.some.injEq] at k2
        have e : zs.getD i d = zs[i] := by simp [List.getD_eq_getElem?_getD, hlt]
        first
          | (have := hc i hlt
             rw [add_none] at this
             rw [Nat.mul_one, Nat.add_zero]; exact this)
          | (rw [← k2, e]; exact hr _)
      · simp at k1
theorem ints_row {w : World} {a : Option Addr} {len cap : Nat} {zs : List Int} (h : Ints w No a len cap zs) : RepV w No (ints zs) (.slice a len cap) := ints_rep h
theorem ints_max {w : World} {a : Option Addr} {len cap : Nat} {zs : List Int} (h : Ints w No a len cap zs) (hc : cap ≤ maxLen) : zs.length ≤ 9223372036854775807 := by
  have h1 := h.len
  have h2 := h.cap
  have h3 : maxLen = 9223372036854775807 := rfl
  omega
end Go.Proofs.Ytiionjpinainlaa
end

/- Layer 9: awake; the laws OptimalityMany and OptimalityBounds. -/
section
namespace Go.Proofs.Ytiionjpinainlaa
set_option linter.unusedVariables false
set_option linter.unusedSimpArgs false
set_option linter.unnecessarySimpa false
set_option linter.unusedSectionVars false
set_option maxRecDepth 10000
open Go.RowKit



end Go.Proofs.Ytiionjpinainlaa
end

/- Layer 9: Has, complete, Subset; valid programs of the tape. -/
section
namespace Go.Proofs.Ytiionjpinainlaa
set_option linter.unusedVariables false
set_option linter.unusedSimpArgs false
set_option linter.unnecessarySimpa false
set_option linter.unusedSectionVars false
set_option maxRecDepth 10000
open Go.RowKit

end Go.Proofs.Ytiionjpinainlaa
end

/- Layer 10: comparing lists; Repeat, of the program and of the reference. -/
section
namespace Go.Proofs.Ytiionjpinainlaa
set_option linter.unusedVariables false
set_option linter.unusedSimpArgs false
set_option linter.unnecessarySimpa false
set_option linter.unusedSectionVars false
set_option maxRecDepth 10000
open Go.RowKit
/-- The row that excludes a choice. -/
def repCo (n : Nat) (ch : List Int) : List Int := (List.range n).map fun i : Nat => if hasB ch (i : Int) then 1 else -1
def repRow (n : Nat) (ch : List Int) : Row := ⟨repCo n ch, -12, ch.length - 1⟩
end Go.Proofs.Ytiionjpinainlaa
end

/- Layer 10: Form. -/
section
namespace Go.Proofs.Ytiionjpinainlaa
set_option linter.unusedVariables false
set_option linter.unusedSimpArgs false
set_option linter.unnecessarySimpa false
set_option linter.unusedSectionVars false
set_option maxRecDepth 10000
open Go.RowKit
def plGL06b_0 : Plan := (.take 0 (.take 1 (.take 2 (.take 3 (.take 4 (.take 5 (.take 6 (.take 7 (.take 8 (.take 9 (.take 10 (.take 11 (.take 12 (.take 13 (.take 14 (.take 15 (.take 16 (.take 17 (.take 18 (.take 19 (.take 20 (.take 21 (.take 22 (.take 23 (.take 24 (.take 25 (.take 26 (.take 27 (.take 28 .done)))))))))))))))))))))))))))))
def plGL06b_1 : Plan := (.take 0 (.take 1 (.take 2 (.alt 3 (.take 4 (.take 5 (.take 6 (.take 7 (.take 8 (.take 10 (.alt 9 (.take 11 (.take 12 (.take 13 (.take 14 (.take 15 (.take 16 (.take 17 (.take 18 (.take 19 (.take 20 (.take 22 (.take 23 (.take 24 (.alt 21 (.alt 25 (.take 26 (.take 27 (.take 28 .done))) .stop) (.alt 25 (.alt 21 (.take 26 (.take 27 (.take 28 .done))) .stop) .stop))))))))))))))) .stop))))))) .stop))))
/-! Form -/
def chosenF (items : List Itm) (ch : List Int) : List Itm := ch.map fun c => items.getD c.toNat ⟨0, 0, ⟨#[]⟩, [], []⟩
theorem chosen_at {items : List Itm} {ch : List Int} {k : Nat} {c : Int} {x : Itm} (hc : ch[k]? = some c) (hx : items[c.toNat]? = some x) : (chosenF items ch)[k]? = some x := by
  rw [chosenF, List.getElem?_map, hc]
  simp [List.getD_eq_getElem?_getD, hx]
theorem choice_elt {ch : List Int} {n k : Nat} {c : Int} (h : choiceB ch n = true) (hc : ch[k]? = some c) : 0 ≤ c ∧ c < n := by
  have hk : k < ch.length := by
    rcases Nat.lt_or_ge k ch.length with h | h
    · exact h
    · rw [List.getElem?_eq_none h] at hc; cases hc
  have := ChTo.of_all h k hk
  rw [choiceAt] at this
  have e := nth_eq hc
  simp at this
  omega
theorem choice_len {ch : List Int} {n : Nat} (h : choiceB ch n = true) : ch.length ≤ n := by
  have key : ∀ i, i < ch.length → (i : Int) ≤ nth ch i ∧ nth ch i < n := by
    intro i
    induction i with
    | zero => intro hi; have := ChTo.of_all h 0 hi; rw [choiceAt] at this; simp at this; omega
    | succ m ih =>
      intro hi
      have h1 := ih (by omega)
      have := ChTo.of_all h (m + 1) hi
      rw [choiceAt] at this
      simp at this
      omega
  rcases Nat.eq_zero_or_pos ch.length with h0 | h0
  · omega
  · have := key (ch.length - 1) (by omega)
    omega
set_option maxHeartbeats 2000000 in
theorem rChoice_any (ch : List Int) (n : Nat) (hl : ch.length ≤ 9223372036854775807) (hn : n ≤ 1000000) : Good Try.prog TT false 48 [.int .i64 n, ints ch] (· = .bool (choiceB ch n)) := by
  have L : (ch.map encI).length = ch.length := List.length_map ..
  refine good_of mixed tabOk Try.func48 rfl rfl Try.ntmps48 Try.results48 rfl rfl ?_
  (conv => whnf); (repeat' (first | (refine arith_i ⟨by omega, by omega⟩ ?_; conv => whnf) | (refine arith_u ⟨by omega, by omega⟩ ?_; conv => whnf) | (refine arith_8 ⟨by omega, by omega⟩ ?_; conv => whnf) | (refine need_i (by first | omega | (simp only [List.length_cons, List.length_nil]; omega) | (simp only [List.length_append, List.length_cons, List.length_nil, List.length_map, List.length_replicate, List.length_modify]; omega)) ?_; conv => whnf) | ((with_reducible refine branch_tt ?_); conv => whnf) | ((with_reducible refine branch_ff ?_); conv => whnf) | (with_reducible refine branch_not ?_) | ((with_reducible refine slc_e ?_); conv => whnf) | ((with_reducible refine callS_a ?_); conv => whnf) | ((with_reducible refine bld_a ?_); conv => whnf) | ((with_reducible refine own_e ?_); conv => whnf) | ((with_reducible refine mkmap_b ?_); conv => whnf) | (refine draw_i 29 plGL06b_0 (by decide +kernel) ?_; (conv => whnf); fail_if_success (guard_target =~ False)) | (refine draw_i 29 plGL06b_1 (by decide +kernel) ?_; (conv => whnf); fail_if_success (guard_target =~ False)) | ((with_reducible refine And.intro ?_ ?_) <;> (conv => whnf)) | (with_reducible exact trivial) | ((with_reducible refine branch_d (fun hq => ?_) (fun hq => ?_)) <;> (try (exfalso; omega)) <;> (conv => whnf)) | ((with_reducible refine branch_e (fun hq => ?_) (fun hq => ?_)) <;> (try (exfalso; omega)) <;> (conv => whnf)) | ((with_reducible refine branch_n (fun hq => ?_) (fun hq => ?_)) <;> (try (exfalso; omega)) <;> (conv => whnf)) | ((with_reducible refine branch_i (fun hq => ?_) (fun hq => ?_)) <;> (try (exfalso; omega)) <;> (conv => whnf))))
  refine loop_i (fun k : Nat => k ≤ ch.length ∧ ChTo ch n k) (fun k => mkSt [(0, .int .i64 n), (1, ints ch), (5, .int .i64 k)] [] false) (fun k => ch.length - k) 0 ⟨Nat.zero_le _, ChTo.zero⟩ (le_mk (by repeat' (first | exact trivial | rfl | apply And.intro)) (by repeat' (first | exact trivial | rfl | apply And.intro)) rfl) ?_
  rintro k ⟨hk, hall⟩
  (conv => whnf); (repeat' (first | (refine arith_i ⟨by omega, by omega⟩ ?_; conv => whnf) | (refine arith_u ⟨by omega, by omega⟩ ?_; conv => whnf) | (refine arith_8 ⟨by omega, by omega⟩ ?_; conv => whnf) | (refine need_i (by first | omega | (simp only [List.length_cons, List.length_nil]; omega) | (simp only [List.length_append, List.length_cons, List.length_nil, List.length_map, List.length_replicate, List.length_modify]; omega)) ?_; conv => whnf) | ((with_reducible refine branch_tt ?_); conv => whnf) | ((with_reducible refine branch_ff ?_); conv => whnf) | (with_reducible refine branch_not ?_) | ((first | refine idx_cs (by assumption) ?_ | (refine idx_c (by omega) fun y hy => ?_; have hn := nth_eq hy) | (refine idx_m (by omega) (by omega) fun z hz => ?_; rw [show ((k : Int) - 1).toNat = k - 1 by omega] at hz; have hnz := nth_eq hz)); conv => whnf) | ((with_reducible refine slc_e ?_); conv => whnf) | ((with_reducible refine callS_a ?_); conv => whnf) | ((with_reducible refine bld_a ?_); conv => whnf) | ((with_reducible refine own_e ?_); conv => whnf) | ((with_reducible refine mkmap_b ?_); conv => whnf) | (refine draw_i 29 plGL06b_0 (by decide +kernel) ?_; (conv => whnf); fail_if_success (guard_target =~ False)) | (refine draw_i 29 plGL06b_1 (by decide +kernel) ?_; (conv => whnf); fail_if_success (guard_target =~ False)) | ((with_reducible refine And.intro ?_ ?_) <;> (conv => whnf)) | (with_reducible exact trivial) | ((with_reducible refine branch_d (fun hq => ?_) (fun hq => ?_)) <;> (try (exfalso; omega)) <;> (conv => whnf)) | ((with_reducible refine branch_e (fun hq => ?_) (fun hq => ?_)) <;> (try (exfalso; omega)) <;> (conv => whnf)) | ((with_reducible refine branch_n (fun hq => ?_) (fun hq => ?_)) <;> (try (exfalso; omega)) <;> (conv => whnf)) | ((with_reducible refine branch_i (fun hq => ?_) (fun hq => ?_)) <;> (try (exfalso; omega)) <;> (conv => whnf))))
  all_goals first
    | exact ret_p rfl (bool_eq (ch_fail (k := k) (by omega) (by simp [choiceAt]; omega)).symm)
    | exact ⟨k + 1, ⟨by omega, hall.step (by simp [choiceAt]; omega)⟩, (le_mk (by repeat' (first | exact trivial | rfl | apply And.intro)) (by repeat' (first | exact trivial | rfl | apply And.intro)) rfl), by omega⟩
    | exact ret_p rfl (bool_eq (hall.full (by omega)).symm)
end Go.Proofs.Ytiionjpinainlaa
end

/- Layer 10: awake. -/
section
namespace Go.Proofs.Ytiionjpinainlaa
set_option linter.unusedVariables false
set_option linter.unusedSimpArgs false
set_option linter.unnecessarySimpa false
set_option linter.unusedSectionVars false
set_option maxRecDepth 10000
open Go.RowKit
end Go.Proofs.Ytiionjpinainlaa
end

/- Layer 10: the reference's All; the law AssemblyAll. -/
section
namespace Go.Proofs.Ytiionjpinainlaa
set_option linter.unusedVariables false
set_option linter.unusedSimpArgs false
set_option linter.unnecessarySimpa false
set_option linter.unusedSectionVars false
set_option maxRecDepth 10000
open Go.RowKit
end Go.Proofs.Ytiionjpinainlaa
end

/- Layer 10: the laws AssemblyRepeats and AssemblyFull. -/
section
namespace Go.Proofs.Ytiionjpinainlaa
set_option linter.unusedVariables false
set_option linter.unusedSimpArgs false
set_option linter.unnecessarySimpa false
set_option linter.unusedSectionVars false
set_option maxRecDepth 10000
open Go.RowKit
set_option maxHeartbeats 4000000 in
theorem sorted_ok (n : Int) (hn : 0 ≤ n ∧ n ≤ 1000) : Good Try.prog TT true 15 [.tape, .int .i64 n] (fun r => ∃ l, r = ints l ∧ (l.length : Int) ≤ n) := by
  refine good_of mixed tabOk Try.func15 rfl rfl Try.ntmps15 Try.results15 rfl rfl ?_
  (conv => whnf); (repeat' (first | (refine arith_i ⟨by omega, by omega⟩ ?_; conv => whnf) | (refine arith_u ⟨by omega, by omega⟩ ?_; conv => whnf) | (refine arith_8 ⟨by omega, by omega⟩ ?_; conv => whnf) | (refine need_i (by first | omega | (simp only [List.length_cons, List.length_nil]; omega) | (simp only [List.length_append, List.length_cons, List.length_nil, List.length_map, List.length_replicate, List.length_modify]; omega)) ?_; conv => whnf) | ((with_reducible refine branch_tt ?_); conv => whnf) | ((with_reducible refine branch_ff ?_); conv => whnf) | (with_reducible refine branch_not ?_) | (((refine call_i (next_ok _ (by omega)) fun r hr => ?_; obtain ⟨m1, rfl, -, h6⟩ := hr; have hm1 := h6 (by omega))); conv => whnf) | ((with_reducible refine slc_e ?_); conv => whnf) | ((with_reducible refine callS_a ?_); conv => whnf) | ((with_reducible refine bld_a ?_); conv => whnf) | ((with_reducible refine own_e ?_); conv => whnf) | ((with_reducible refine mkmap_b ?_); conv => whnf) | ((with_reducible refine branch_d (fun hq => ?_) (fun hq => ?_)) <;> (try (exfalso; omega)) <;> (conv => whnf)) | ((with_reducible refine branch_e (fun hq => ?_) (fun hq => ?_)) <;> (try (exfalso; omega)) <;> (conv => whnf)) | ((with_reducible refine branch_n (fun hq => ?_) (fun hq => ?_)) <;> (try (exfalso; omega)) <;> (conv => whnf)) | ((with_reducible refine branch_i (fun hq => ?_) (fun hq => ?_)) <;> (try (exfalso; omega)) <;> (conv => whnf))))
  refine loop_i2 (fun (k : Nat) (l : List Int) => (k : Int) ≤ n ∧ l.length ≤ k) (fun k l => mkSt [(0, .tape), (1, .int .i64 n), (5, .own 900 3 1 (l.map encI)), (6, .int .i64 k)] [] true) (fun k _ => n.toNat - k) 0 [] ⟨by omega, by simp⟩ (Le.trans (le_adopt 5 900 3 1 rfl) (le_mk (by repeat' (first | exact trivial | rfl | apply And.intro)) (by repeat' (first | exact trivial | rfl | apply And.intro)) rfl)) ?_
  rintro k l ⟨hk, hl⟩
  have LL : (l.map encI).length = l.length := List.length_map ..
  (conv => whnf); (repeat' (first | (refine arith_i ⟨by omega, by omega⟩ ?_; conv => whnf) | (refine arith_u ⟨by omega, by omega⟩ ?_; conv => whnf) | (refine arith_8 ⟨by omega, by omega⟩ ?_; conv => whnf) | (refine need_i (by first | omega | (simp only [List.length_cons, List.length_nil]; omega) | (simp only [List.length_append, List.length_cons, List.length_nil, List.length_map, List.length_replicate, List.length_modify]; omega)) ?_; conv => whnf) | ((with_reducible refine branch_tt ?_); conv => whnf) | ((with_reducible refine branch_ff ?_); conv => whnf) | (with_reducible refine branch_not ?_) | (((refine call_i (next_ok _ (by omega)) fun r hr => ?_; obtain ⟨m1, rfl, -, h6⟩ := hr; have hm1 := h6 (by omega))); conv => whnf) | ((with_reducible refine slc_e ?_); conv => whnf) | ((with_reducible refine callS_a ?_); conv => whnf) | ((with_reducible refine bld_a ?_); conv => whnf) | ((with_reducible refine own_e ?_); conv => whnf) | ((with_reducible refine mkmap_b ?_); conv => whnf) | ((with_reducible refine branch_d (fun hq => ?_) (fun hq => ?_)) <;> (try (exfalso; omega)) <;> (conv => whnf)) | ((with_reducible refine branch_e (fun hq => ?_) (fun hq => ?_)) <;> (try (exfalso; omega)) <;> (conv => whnf)) | ((with_reducible refine branch_n (fun hq => ?_) (fun hq => ?_)) <;> (try (exfalso; omega)) <;> (conv => whnf)) | ((with_reducible refine branch_i (fun hq => ?_) (fun hq => ?_)) <;> (try (exfalso; omega)) <;> (conv => whnf))))
  · exact ⟨k + 1, l ++ [(k : Int)], ⟨by omega, by simp; omega⟩, by rw [← snocI']; exact (le_mk (by repeat' (first | exact trivial | rfl | apply And.intro)) (by repeat' (first | exact trivial | rfl | apply And.intro)) rfl), by omega⟩
  · exact ⟨k + 1, l, ⟨by omega, by omega⟩, (le_mk (by repeat' (first | exact trivial | rfl | apply And.intro)) (by repeat' (first | exact trivial | rfl | apply And.intro)) rfl), by omega⟩
  · exact ret_ol ⟨l, rfl, by omega⟩
/-! Full -/
end Go.Proofs.Ytiionjpinainlaa
end

/- Layer 10: the law AssemblyLeast. -/
section
namespace Go.Proofs.Ytiionjpinainlaa
set_option linter.unusedVariables false
set_option linter.unusedSimpArgs false
set_option linter.unnecessarySimpa false
set_option linter.unusedSectionVars false
set_option maxRecDepth 10000
open Go.RowKit
theorem best_meets {P : Prog} (hv : validB P = true) (h : (bestF P).1 = true) : meetsB P (bestF P).2.2 = true ∧ costF P (bestF P).2.2 = (bestF P).2.1 ∧ Asc 0 P.costs.length (bestF P).2.2 := by
  have hb := best_is P
  have h1 := hb.mem h
  have h2 := all_meets hv h1.1
  exact ⟨h2.1, by rw [h2.2.1, h1.2], h2.2.2⟩
theorem best_len {P : Prog} (hv : validB P = true) : (bestF P).2.2.length ≤ 12 := by
  cases h : (bestF P).1 with
  | true => have := asc_len (best_meets hv h).2.2; have := (validB_parts hv).1; omega
  | false => rw [((best_is P).none h).2]; simp
end Go.Proofs.Ytiionjpinainlaa
end

/- Layer 9: the bound is sound; the law OptimalityBoundSound. -/
section
namespace Go.Proofs.Ytiionjpinainlaa
set_option linter.unusedVariables false
set_option linter.unusedSimpArgs false
set_option linter.unnecessarySimpa false
set_option linter.unusedSectionVars false
set_option maxRecDepth 10000
open Go.RowKit

end Go.Proofs.Ytiionjpinainlaa
end

/- Layer 9: the generator Tree. -/
section
namespace Go.Proofs.Ytiionjpinainlaa
set_option linter.unusedVariables false
set_option linter.unusedSimpArgs false
set_option linter.unnecessarySimpa false
set_option linter.unusedSectionVars false
set_option maxRecDepth 10000
open Go.RowKit

/-- How many options are undecided. -/
def und : List Int → Nat
  | [] => 0
  | x :: l => (if x = -1 then 1 else 0) + und l
theorem und_set {x : Int} (hx : x ≠ -1) : ∀ {s : List Int} {v : Nat}, s[v]? = some (-1) → und (s.set v x) + 1 = und s
  | [], v, h => by simp at h
  | y :: s, 0, h => by
    simp at h
    subst h
    simp [und, hx]; omega
  | y :: s, v + 1, h => by
    have := und_set hx (s := s) (v := v) (by simpa using h)
    simp only [List.set_cons_succ, und]
    omega
def wt (s : List Int) : Nat := 2 ^ (und s + 1) - 1
def wsum : List (List Int) → Nat
  | [] => 0
  | s :: l => wt s + wsum l
theorem wsum_append (a b : List (List Int)) : wsum (a ++ b) = wsum a + wsum b := by
  induction a with
  | nil => simp [wsum]
  | cons x a ih => simp only [List.cons_append, wsum, ih]; omega
theorem wt_pos (s : List Int) : 1 ≤ wt s := by
  have := Nat.one_le_two_pow (n := und s)
  unfold wt
  rw [Nat.pow_succ]
  omega
theorem len_wsum (l : List (List Int)) : l.length ≤ wsum l := by
  induction l with
  | nil => simp [wsum]
  | cons s l ih => have := wt_pos s; simp only [List.length_cons, wsum]; omega
theorem wt_set {s : List Int} {v : Nat} {x : Int} (hx : x ≠ -1) (h : s[v]? = some (-1)) : 2 * wt (s.set v x) + 1 = wt s := by
  have h1 := und_set hx h
  have h2 := Nat.one_le_two_pow (n := und (s.set v x))
  unfold wt
  rw [← h1, Nat.pow_succ, Nat.pow_succ]
  omega
/-- How many nodes are branches. -/
def brs : List Nd → Nat
  | [] => 0
  | n :: l => (if n.kind = 1 then 1 else 0) + brs l
theorem brs_snoc (l : List Nd) (n : Nd) : brs (l ++ [n]) = brs l + if n.kind = 1 then 1 else 0 := by
  induction l with
  | nil => simp [brs]
  | cons x l ih => simp only [List.cons_append, brs, ih]; omega
/-- A node of a tree as the tape makes it; z: where its children lie, if it is a branch. -/
def TNode (P : Prog) (full : Bool) (S : List (List Int)) (z j : Nat) (n : Nd) (s : List Int) : Prop :=
  (n.kind = 1 ∧ n.zero = z ∧ n.one = z + 1 ∧ j < z ∧ 0 ≤ n.var ∧ n.var < P.costs.length ∧ nth s n.var.toNat = -1 ∧ S[z]? = some (s.set n.var.toNat 0) ∧ S[z + 1]? = some (s.set n.var.toNat 1)) ∨
  (full = true ∧ 0 ≤ deadF P s ∧ n = ⟨2, 0, 0, 0, deadF P s, 0, 0⟩) ∨ (full = true ∧ deadF P s < 0 ∧ (∀ x ∈ s, x ≠ -1) ∧ n = ⟨3, 0, 0, 0, -1, 0, 1⟩) ∨ (full = false ∧ LeafG P s n)
structure TreeInv (P : Prog) (full : Bool) (i : Nat) (S : List (List Int)) (l : List Nd) : Prop where
  li : l.length = i
  iS : i ≤ S.length
  Sl : S.length = 1 + 2 * brs l
  root : S[0]? = some (List.replicate P.costs.length (-1))
  tri : ∀ s ∈ S, stOB s P.costs.length = true
  node : ∀ (j : Nat) n s, l[j]? = some n → S[j]? = some s → TNode P full S (1 + 2 * brs (l.take j)) j n s
  size : i + wsum (S.drop i) ≤ 2 ^ (P.costs.length + 1) - 1
  pre : ∀ j, j < i → j < 1 + 2 * brs (l.take j)
section
variable {P : Prog} {full : Bool} {i : Nat} {S : List (List Int)} {l : List Nd} {s : List Int} {n : Nd}
theorem TreeInv.leaf (h : TreeInv P full i S l) (hs : S[i]? = some s) (hk : n.kind ≠ 1) (hn : (full = true ∧ 0 ≤ deadF P s ∧ n = ⟨2, 0, 0, 0, deadF P s, 0, 0⟩) ∨ (full = true ∧ deadF P s < 0 ∧ (∀ x ∈ s, x ≠ -1) ∧ n = ⟨3, 0, 0, 0, -1, 0, 1⟩) ∨ (full = false ∧ LeafG P s n)) :
    TreeInv P full (i + 1) S (l ++ [n]) ∧ wsum (S.drop (i + 1)) < wsum (S.drop i) := by
  have hlt := (List.getElem?_eq_some_iff.1 hs).1
  have hw : wsum (S.drop i) = wt s + wsum (S.drop (i + 1)) := by rw [drop_at hs, wsum]
  have hp := wt_pos s
  have hli := h.li
  refine ⟨⟨by simp [hli], hlt, by rw [brs_snoc, if_neg hk]; exact h.Sl, h.root, h.tri, fun j n' s' h1 h2 => ?_, by have := h.size; omega, fun j hj => by
      rcases Nat.lt_or_ge j i with hji | hji
      · rw [List.take_append_of_le_length (by omega)]; exact h.pre j hji
      · rw [List.take_append_of_le_length (by omega), List.take_of_length_le (by omega)]; have := h.Sl; omega⟩, by omega⟩
  rcases Nat.lt_or_ge j i with hj | hj
  · rw [List.getElem?_append_left (by omega)] at h1
    rw [List.take_append_of_le_length (by omega)]
    exact h.node j n' s' h1 h2
  · have hjl : j < (l ++ [n]).length := (List.getElem?_eq_some_iff.1 h1).1
    obtain rfl : j = i := by simp at hjl; omega
    have e : n' = n := by
      rw [List.getElem?_append_right (by omega), hli, Nat.sub_self] at h1
      simpa using h1.symm
    rw [hs] at h2
    injection h2 with h2
    subst h2
    subst e
    exact .inr hn
theorem TreeInv.branch (h : TreeInv P full i S l) (hs : S[i]? = some s) {v : Nat} (hv : s[v]? = some (-1)) : TreeInv P full (i + 1) (S ++ [s.set v 0, s.set v 1]) (l ++ [⟨1, v, S.length, S.length + 1, 0, 0, 0⟩]) ∧ wsum ((S ++ [s.set v 0, s.set v 1]).drop (i + 1)) < wsum (S.drop i) := by
  have hlt := (List.getElem?_eq_some_iff.1 hs).1
  have hvl := (List.getElem?_eq_some_iff.1 hv).1
  have hw : wsum (S.drop i) = wt s + wsum (S.drop (i + 1)) := by rw [drop_at hs, wsum]
  have hsO := h.tri s (List.mem_of_getElem? hs)
  have hsl := st_len hsO
  have h0 := wt_set (x := 0) (by omega) hv
  have h1 := wt_set (x := 1) (by omega) hv
  have hd : (S ++ [s.set v 0, s.set v 1]).drop (i + 1) = S.drop (i + 1) ++ [s.set v 0, s.set v 1] := by
    rw [List.drop_append_of_le_length (by omega)]
  have hws : wsum ((S ++ [s.set v 0, s.set v 1]).drop (i + 1)) + 1 = wsum (S.drop i) := by
    rw [hd, wsum_append, hw]
    simp only [wsum]
    omega
  have hli := h.li
  have hSl := h.Sl
  refine ⟨⟨by simp [hli], by simp; omega, by rw [brs_snoc, if_pos rfl]; simp; omega, ?_, fun x hx => ?_, fun j n' s' g1 g2 => ?_, by have := h.size; omega, fun j hj => by
      rcases Nat.lt_or_ge j i with hji | hji
      · rw [List.take_append_of_le_length (by omega)]; exact h.pre j hji
      · rw [List.take_append_of_le_length (by omega), List.take_of_length_le (by omega)]; have := h.Sl; omega⟩, by omega⟩
  · rw [List.getElem?_append_left (by omega)]; exact h.root
  · rcases List.mem_append.1 hx with hx | hx
    · exact h.tri x hx
    · simp at hx
      rcases hx with rfl | rfl
      · exact stO_set hsO (by omega)
      · exact stO_set hsO (by omega)
  · rcases Nat.lt_or_ge j i with hj | hj
    · rw [List.getElem?_append_left (by omega)] at g1
      rw [List.getElem?_append_left (by omega)] at g2
      rw [List.take_append_of_le_length (by omega)]
      rcases h.node j n' s' g1 g2 with ⟨a1, a2, a3, a4, a5, a6, a7, a8, a9⟩ | a
      · refine .inl ⟨a1, a2, a3, a4, a5, a6, a7, ?_, ?_⟩
        · rw [List.getElem?_append_left (List.getElem?_eq_some_iff.1 a8).1]; exact a8
        · rw [List.getElem?_append_left (List.getElem?_eq_some_iff.1 a9).1]; exact a9
      · exact .inr a
    · have hjl := (List.getElem?_eq_some_iff.1 g1).1
      obtain rfl : j = i := by simp at hjl; omega
      have e : n' = ⟨1, v, S.length, S.length + 1, 0, 0, 0⟩ := by
        rw [List.getElem?_append_right (by omega), hli, Nat.sub_self] at g1
        simpa using g1.symm
      rw [List.getElem?_append_left (by omega), hs] at g2
      injection g2 with g2
      subst g2
      subst e
      have et : (l ++ [(⟨1, v, S.length, S.length + 1, 0, 0, 0⟩ : Nd)]).take j = l := by
        rw [List.take_append_of_le_length (by omega), List.take_of_length_le (by omega)]
      rw [et, ← hSl]
      refine .inl ⟨rfl, rfl, rfl, hlt, by show (0 : Int) ≤ v; omega, by show (v : Int) < _; omega, ?_, ?_, ?_⟩
      · show nth s (v : Int).toNat = -1
        rw [Int.toNat_natCast, nth_eq hv]
      · show (S ++ [s.set v 0, s.set v 1])[S.length]? = some (s.set (v : Int).toNat 0)
        rw [List.getElem?_append_right (by omega), Nat.sub_self, Int.toNat_natCast]; rfl
      · show (S ++ [s.set v 0, s.set v 1])[S.length + 1]? = some (s.set (v : Int).toNat 1)
        rw [List.getElem?_append_right (by omega), show S.length + 1 - S.length = 1 by omega, Int.toNat_natCast]; rfl
theorem TreeInv.small (h : TreeInv P full i S l) (hc : P.costs.length ≤ 18) : S.length ≤ 524287 := by
  have h1 := h.size
  have h2 := len_wsum (S.drop i)
  have h3 := h.iS
  have h4 : 2 ^ (P.costs.length + 1) ≤ 2 ^ 19 := Nat.pow_le_pow_right (by omega) (by omega)
  rw [List.length_drop] at h2
  omega
end
end Go.Proofs.Ytiionjpinainlaa
end

/- Layer 9: each choice completes exactly one leaf. -/
section
namespace Go.Proofs.Ytiionjpinainlaa
set_option linter.unusedVariables false
set_option linter.unusedSimpArgs false
set_option linter.unnecessarySimpa false
set_option linter.unusedSectionVars false
set_option maxRecDepth 10000
open Go.RowKit

end Go.Proofs.Ytiionjpinainlaa
end

/- Layer 9: the law OptimalityDivides. -/
section
namespace Go.Proofs.Ytiionjpinainlaa
set_option linter.unusedVariables false
set_option linter.unusedSimpArgs false
set_option linter.unnecessarySimpa false
set_option linter.unusedSectionVars false
set_option maxRecDepth 10000
open Go.RowKit

end Go.Proofs.Ytiionjpinainlaa
end

/- From a contract of the interpreter to a law's call: slices of structs whose fields are numbers. -/
section
namespace Go.Proofs.Ytiionjpinainlaa
set_option linter.unusedVariables false
set_option linter.unusedSimpArgs false
open Go.RowKit Go.ChangeShapes Go.WideShapes Go.Deep

section
variable {H : Type} {enc : TypeId × Value → H} {P : Program} {w : World} {base : Nat} {spare : Nat → Bool} {held : Bool}
end
end Go.Proofs.Ytiionjpinainlaa
end

/- Layer 9: what is proved is sound; the law OptimalitySound. -/
section
namespace Go.Proofs.Ytiionjpinainlaa
set_option linter.unusedVariables false
set_option linter.unusedSimpArgs false
set_option linter.unnecessarySimpa false
set_option linter.unusedSectionVars false
set_option maxRecDepth 10000
open Go.RowKit

end Go.Proofs.Ytiionjpinainlaa
end

/- Layer 9: a tree that the tape makes in full, and what it proves; the law OptimalityBest. -/
section
namespace Go.Proofs.Ytiionjpinainlaa
set_option linter.unusedVariables false
set_option linter.unusedSimpArgs false
set_option linter.unnecessarySimpa false
set_option linter.unusedSectionVars false
set_option maxRecDepth 10000
open Go.RowKit

end Go.Proofs.Ytiionjpinainlaa
end

/- Layer 10, plain: the certificate is accepted. -/
section
namespace Go.Proofs.Ytiionjpinainlaa
set_option linter.unusedVariables false
set_option linter.unusedSimpArgs false
set_option linter.unnecessarySimpa false
set_option linter.unusedSectionVars false
set_option maxRecDepth 10000
open Go.RowKit
/-- Ascending lists with the same elements are equal. -/
theorem asc_ext : ∀ {a b : List Int} {lo hi lo' hi' : Nat}, Asc lo hi a → Asc lo' hi' b → (∀ x, x ∈ a ↔ x ∈ b) → a = b
  | [], [], _, _, _, _, _, _, _ => rfl
  | [], y :: b, _, _, _, _, _, _, h => absurd ((h y).2 (by simp)) (by simp)
  | x :: a, [], _, _, _, _, _, _, h => absurd ((h x).1 (by simp)) (by simp)
  | x :: a, y :: b, lo, hi, lo', hi', ha, hb, h => by
    have pa := List.pairwise_cons.1 ha.1
    have pb := List.pairwise_cons.1 hb.1
    have e : x = y := by
      rcases List.mem_cons.1 ((h x).1 (by simp)) with e | e
      · exact e
      · rcases List.mem_cons.1 ((h y).2 (by simp)) with e' | e'
        · exact e'.symm
        · have h1 := pb.1 x e; have h2 := pa.1 y e'; omega
    subst e
    rw [asc_ext (a := a) (b := b) (lo := lo) (hi := hi) (lo' := lo') (hi' := hi') ⟨pa.2, fun z hz => ha.2 z (by simp [hz])⟩ ⟨pb.2, fun z hz => hb.2 z (by simp [hz])⟩ fun z => ?_]
    constructor
    · intro hz
      rcases List.mem_cons.1 ((h z).1 (by simp [hz])) with e | e
      · have := pa.1 z hz; omega
      · exact e
    · intro hz
      rcases List.mem_cons.1 ((h z).2 (by simp [hz])) with e | e
      · have := pb.1 z hz; omega
      · exact e
section
variable {P : Prog} {f : Bool} {b : Int}
end
end Go.Proofs.Ytiionjpinainlaa
end

/- Layer 10: the law AssemblySolves. -/
section
namespace Go.Proofs.Ytiionjpinainlaa
set_option linter.unusedVariables false
set_option linter.unusedSimpArgs false
set_option linter.unnecessarySimpa false
set_option linter.unusedSectionVars false
set_option maxRecDepth 10000
open Go.RowKit
end Go.Proofs.Ytiionjpinainlaa
end

/- Layer 11: Restrict, of the program and of the reference. -/
section
namespace Go.Proofs.Ytiionjpinainlaa
set_option linter.unusedVariables false
set_option linter.unusedSimpArgs false
set_option linter.unnecessarySimpa false
set_option linter.unusedSectionVars false
set_option maxRecDepth 10000
open Go.RowKit
set_option maxHeartbeats 2000000 in
theorem pChoice_any (ch : List Int) (n : Nat) (hl : ch.length ≤ 9223372036854775807) (hn : n ≤ 1000000) : Good Try.prog TT false 53 [ints ch, .int .i64 n] (· = .bool (choiceB ch n)) := by
  have L : (ch.map encI).length = ch.length := List.length_map ..
  refine good_of mixed tabOk Try.func53 rfl rfl Try.ntmps53 Try.results53 rfl rfl ?_
  (conv => whnf); (repeat' (first | (refine arith_i ⟨by omega, by omega⟩ ?_; conv => whnf) | (refine arith_u ⟨by omega, by omega⟩ ?_; conv => whnf) | (refine arith_8 ⟨by omega, by omega⟩ ?_; conv => whnf) | (refine need_i (by first | omega | (simp only [List.length_cons, List.length_nil]; omega) | (simp only [List.length_append, List.length_cons, List.length_nil, List.length_map, List.length_replicate, List.length_modify]; omega)) ?_; conv => whnf) | ((with_reducible refine branch_tt ?_); conv => whnf) | ((with_reducible refine branch_ff ?_); conv => whnf) | (with_reducible refine branch_not ?_) | ((with_reducible refine slc_e ?_); conv => whnf) | ((with_reducible refine callS_a ?_); conv => whnf) | ((with_reducible refine bld_a ?_); conv => whnf) | ((with_reducible refine own_e ?_); conv => whnf) | ((with_reducible refine mkmap_b ?_); conv => whnf) | ((with_reducible refine branch_d (fun hq => ?_) (fun hq => ?_)) <;> (try (exfalso; omega)) <;> (conv => whnf)) | ((with_reducible refine branch_e (fun hq => ?_) (fun hq => ?_)) <;> (try (exfalso; omega)) <;> (conv => whnf)) | ((with_reducible refine branch_n (fun hq => ?_) (fun hq => ?_)) <;> (try (exfalso; omega)) <;> (conv => whnf)) | ((with_reducible refine branch_i (fun hq => ?_) (fun hq => ?_)) <;> (try (exfalso; omega)) <;> (conv => whnf))))
  refine loop_i (fun k : Nat => k ≤ ch.length ∧ ChTo ch n k) (fun k => mkSt [(0, ints ch), (1, .int .i64 n), (7, ints ch), (8, .int .i64 (ch.map encI).length), (9, .int .i64 k)] [] false) (fun k => ch.length - k) 0 ⟨Nat.zero_le _, ChTo.zero⟩ (le_mk (by repeat' (first | exact trivial | rfl | apply And.intro)) (by repeat' (first | exact trivial | rfl | apply And.intro)) rfl) ?_
  rintro k ⟨hk, hall⟩
  (conv => whnf); (repeat' (first | (refine arith_i ⟨by omega, by omega⟩ ?_; conv => whnf) | (refine arith_u ⟨by omega, by omega⟩ ?_; conv => whnf) | (refine arith_8 ⟨by omega, by omega⟩ ?_; conv => whnf) | (refine need_i (by first | omega | (simp only [List.length_cons, List.length_nil]; omega) | (simp only [List.length_append, List.length_cons, List.length_nil, List.length_map, List.length_replicate, List.length_modify]; omega)) ?_; conv => whnf) | ((with_reducible refine branch_tt ?_); conv => whnf) | ((with_reducible refine branch_ff ?_); conv => whnf) | (with_reducible refine branch_not ?_) | ((first | refine idx_cs (by assumption) ?_ | (refine idx_c (by omega) fun y hy => ?_; have hn := nth_eq hy) | (refine idx_m (by omega) (by omega) fun z hz => ?_; rw [show ((k : Int) - 1).toNat = k - 1 by omega] at hz; have hnz := nth_eq hz)); conv => whnf) | ((with_reducible refine slc_e ?_); conv => whnf) | ((with_reducible refine callS_a ?_); conv => whnf) | ((with_reducible refine bld_a ?_); conv => whnf) | ((with_reducible refine own_e ?_); conv => whnf) | ((with_reducible refine mkmap_b ?_); conv => whnf) | ((with_reducible refine branch_d (fun hq => ?_) (fun hq => ?_)) <;> (try (exfalso; omega)) <;> (conv => whnf)) | ((with_reducible refine branch_e (fun hq => ?_) (fun hq => ?_)) <;> (try (exfalso; omega)) <;> (conv => whnf)) | ((with_reducible refine branch_n (fun hq => ?_) (fun hq => ?_)) <;> (try (exfalso; omega)) <;> (conv => whnf)) | ((with_reducible refine branch_i (fun hq => ?_) (fun hq => ?_)) <;> (try (exfalso; omega)) <;> (conv => whnf))))
  all_goals first
    | exact ret_p rfl (bool_eq (ch_fail (k := k) (by omega) (by simp [choiceAt]; omega)).symm)
    | exact ⟨k + 1, ⟨by omega, hall.step (by simp [choiceAt]; omega)⟩, (le_mk (by repeat' (first | exact trivial | rfl | apply And.intro)) (by repeat' (first | exact trivial | rfl | apply And.intro)) rfl), by omega⟩
    | exact ret_p rfl (bool_eq (hall.full (by omega)).symm)
def idxI (l : List Int) (r : Int) : Int := match l.findIdx? (· == r) with | some i => i | none => -1
theorem indexI_ok (l : List Int) (r : Int) (hl : l.length ≤ 1000000) : Good Try.prog TT false 100 [ints l, .int .i64 r] (· = .int .i64 (idxI l r)) := by
  have L : (l.map encI).length = l.length := List.length_map ..
  refine good_of mixed tabOk Try.func100 rfl rfl Try.ntmps100 Try.results100 rfl rfl ?_
  (conv => whnf); (repeat (first | (refine arith_i ⟨by omega, by omega⟩ ?_; conv => whnf) | (refine need_i (by first | omega | (simp only [List.length_append, List.length_cons, List.length_nil]; omega)) ?_; conv => whnf) | ((with_reducible refine branch_tt ?_); conv => whnf) | ((with_reducible refine branch_ff ?_); conv => whnf) | (with_reducible refine branch_not ?_) | ((with_reducible refine slc_e ?_); conv => whnf) | ((with_reducible refine callS_a ?_); conv => whnf) | ((with_reducible refine bld_a ?_); conv => whnf) | ((with_reducible refine own_e ?_); conv => whnf) | ((with_reducible refine mkmap_b ?_); conv => whnf)))
  refine loop_i (fun k : Nat => k ≤ l.length ∧ ∀ i x, i < k → l[i]? = some x → (x == r) = false) (fun k => mkSt [(0, ints l), (1, .int .i64 r), (7, .int .i64 (l.map encI).length), (8, .int .i64 k)] [] false) (fun k => l.length - k) 0 ⟨Nat.zero_le _, nofun⟩ (le_mk (by repeat' (first | exact trivial | rfl | apply And.intro)) (by repeat' (first | exact trivial | rfl | apply And.intro)) rfl) ?_
  rintro k ⟨hk, hall⟩
  (conv => whnf); (repeat (first | (refine arith_i ⟨by omega, by omega⟩ ?_; conv => whnf) | (refine need_i (by first | omega | (simp only [List.length_append, List.length_cons, List.length_nil]; omega)) ?_; conv => whnf) | ((with_reducible refine branch_tt ?_); conv => whnf) | ((with_reducible refine branch_ff ?_); conv => whnf) | (with_reducible refine branch_not ?_) | ((with_reducible refine slc_e ?_); conv => whnf) | ((with_reducible refine callS_a ?_); conv => whnf) | ((with_reducible refine bld_a ?_); conv => whnf) | ((with_reducible refine own_e ?_); conv => whnf) | ((with_reducible refine mkmap_b ?_); conv => whnf)))
  refine branch_d (fun h => ?_) (fun h => ?_)
  · (conv => whnf); (repeat (first | (refine arith_i ⟨by omega, by omega⟩ ?_; conv => whnf) | (refine need_i (by first | omega | (simp only [List.length_append, List.length_cons, List.length_nil]; omega)) ?_; conv => whnf) | ((with_reducible refine branch_tt ?_); conv => whnf) | ((with_reducible refine branch_ff ?_); conv => whnf) | (with_reducible refine branch_not ?_) | ((with_reducible refine slc_e ?_); conv => whnf) | ((with_reducible refine callS_a ?_); conv => whnf) | ((with_reducible refine bld_a ?_); conv => whnf) | ((with_reducible refine own_e ?_); conv => whnf) | ((with_reducible refine mkmap_b ?_); conv => whnf)))
    refine idx_m (by omega) (by omega) fun x hx => ?_
    rw [Int.toNat_natCast] at hx
    (conv => whnf); (repeat (first | (refine arith_i ⟨by omega, by omega⟩ ?_; conv => whnf) | (refine need_i (by first | omega | (simp only [List.length_append, List.length_cons, List.length_nil]; omega)) ?_; conv => whnf) | ((with_reducible refine branch_tt ?_); conv => whnf) | ((with_reducible refine branch_ff ?_); conv => whnf) | (with_reducible refine branch_not ?_) | ((with_reducible refine slc_e ?_); conv => whnf) | ((with_reducible refine callS_a ?_); conv => whnf) | ((with_reducible refine bld_a ?_); conv => whnf) | ((with_reducible refine own_e ?_); conv => whnf) | ((with_reducible refine mkmap_b ?_); conv => whnf)))
    refine branch_e (fun he => ?_) (fun he => ?_)
    · (conv => whnf); (repeat (first | (refine arith_i ⟨by omega, by omega⟩ ?_; conv => whnf) | (refine need_i (by first | omega | (simp only [List.length_append, List.length_cons, List.length_nil]; omega)) ?_; conv => whnf) | ((with_reducible refine branch_tt ?_); conv => whnf) | ((with_reducible refine branch_ff ?_); conv => whnf) | (with_reducible refine branch_not ?_) | ((with_reducible refine slc_e ?_); conv => whnf) | ((with_reducible refine callS_a ?_); conv => whnf) | ((with_reducible refine bld_a ?_); conv => whnf) | ((with_reducible refine own_e ?_); conv => whnf) | ((with_reducible refine mkmap_b ?_); conv => whnf)))
      refine ret_p rfl (int_eq ?_)
      have : l.findIdx? (· == r) = some k := by
        rw [List.findIdx?_eq_some_iff_getElem]
        obtain ⟨h1, h2⟩ := List.getElem?_eq_some_iff.1 hx
        exact ⟨h1, by rw [h2]; simp [he], fun j hj => by rw [hall j _ hj (List.getElem?_eq_getElem (by omega))]; simp⟩
      rw [idxI, this]
    · (conv => whnf); (repeat (first | (refine arith_i ⟨by omega, by omega⟩ ?_; conv => whnf) | (refine need_i (by first | omega | (simp only [List.length_append, List.length_cons, List.length_nil]; omega)) ?_; conv => whnf) | ((with_reducible refine branch_tt ?_); conv => whnf) | ((with_reducible refine branch_ff ?_); conv => whnf) | (with_reducible refine branch_not ?_) | ((with_reducible refine slc_e ?_); conv => whnf) | ((with_reducible refine callS_a ?_); conv => whnf) | ((with_reducible refine bld_a ?_); conv => whnf) | ((with_reducible refine own_e ?_); conv => whnf) | ((with_reducible refine mkmap_b ?_); conv => whnf)))
      refine ⟨k + 1, ⟨by omega, fun i y hi hy => ?_⟩, (le_mk (by repeat' (first | exact trivial | rfl | apply And.intro)) (by repeat' (first | exact trivial | rfl | apply And.intro)) rfl), by omega⟩
      rcases Nat.lt_or_ge i k with h' | h'
      · exact hall i y h' hy
      · obtain rfl : i = k := by omega
        rw [hx] at hy; injection hy with hy; subst hy; simp; exact fun e => he e.symm
  · (conv => whnf); (repeat (first | (refine arith_i ⟨by omega, by omega⟩ ?_; conv => whnf) | (refine need_i (by first | omega | (simp only [List.length_append, List.length_cons, List.length_nil]; omega)) ?_; conv => whnf) | ((with_reducible refine branch_tt ?_); conv => whnf) | ((with_reducible refine branch_ff ?_); conv => whnf) | (with_reducible refine branch_not ?_) | ((with_reducible refine slc_e ?_); conv => whnf) | ((with_reducible refine callS_a ?_); conv => whnf) | ((with_reducible refine bld_a ?_); conv => whnf) | ((with_reducible refine own_e ?_); conv => whnf) | ((with_reducible refine mkmap_b ?_); conv => whnf)))
    refine ret_p rfl (int_eq ?_)
    have : l.findIdx? (· == r) = none := by
      rw [List.findIdx?_eq_none_iff]
      intro x hx
      obtain ⟨i, hi, e⟩ := List.mem_iff_getElem.1 hx
      exact hall i x (by omega) (by rw [← e]; exact List.getElem?_eq_getElem hi)
    rw [idxI, this]
theorem idxI_any (l : List Int) (r : Int) : decide (idxI l r ≥ 0) = hasB l r := by
  unfold idxI hasB
  split
  · next i h =>
    obtain ⟨h1, h2, -⟩ := List.findIdx?_eq_some_iff_getElem.1 h
    rw [List.any_eq_true.2 ⟨_, List.getElem_mem h1, h2⟩]
    simp
  · next h =>
    rw [List.findIdx?_eq_none_iff] at h
    rw [List.any_eq_false.2 (fun x hx => by rw [h x hx]; simp)]
    rfl
theorem containsI_ok (l : List Int) (r : Int) (hl : l.length ≤ 1000000) : Good Try.prog TT false 97 [ints l, .int .i64 r] (· = .bool (hasB l r)) := by
  refine good_of mixed tabOk Try.func97 rfl rfl Try.ntmps97 Try.results97 rfl rfl ?_
  (conv => whnf); (repeat (first | (refine arith_i ⟨by omega, by omega⟩ ?_; conv => whnf) | (refine need_i (by first | omega | (simp only [List.length_append, List.length_cons, List.length_nil]; omega)) ?_; conv => whnf) | ((with_reducible refine branch_tt ?_); conv => whnf) | ((with_reducible refine branch_ff ?_); conv => whnf) | (with_reducible refine branch_not ?_) | ((with_reducible refine slc_e ?_); conv => whnf) | ((with_reducible refine callS_a ?_); conv => whnf) | ((with_reducible refine bld_a ?_); conv => whnf) | ((with_reducible refine own_e ?_); conv => whnf) | ((with_reducible refine mkmap_b ?_); conv => whnf)))
  refine call_e (indexI_ok l r hl) ?_
  (conv => whnf); (repeat (first | (refine arith_i ⟨by omega, by omega⟩ ?_; conv => whnf) | (refine need_i (by first | omega | (simp only [List.length_append, List.length_cons, List.length_nil]; omega)) ?_; conv => whnf) | ((with_reducible refine branch_tt ?_); conv => whnf) | ((with_reducible refine branch_ff ?_); conv => whnf) | (with_reducible refine branch_not ?_) | ((with_reducible refine slc_e ?_); conv => whnf) | ((with_reducible refine callS_a ?_); conv => whnf) | ((with_reducible refine bld_a ?_); conv => whnf) | ((with_reducible refine own_e ?_); conv => whnf) | ((with_reducible refine mkmap_b ?_); conv => whnf)))
  exact ret_p rfl (bool_eq (idxI_any l r))
/-! Restrict -/
def unitCo (n : Nat) (a : Int) : List Int := (List.replicate n (0 : Int)).set a.toNat 1
def unitRow (n : Nat) (a v : Int) : Row := ⟨unitCo n a, v, v⟩
def freeL (an us : List Int) : List Int := us.filter fun u => !hasB an u
def resRows (P : Prog) (an us : List Int) : List Row := P.rows ++ an.map (fun a => unitRow P.costs.length a 1) ++ (freeL an us).map (fun u => unitRow P.costs.length u 0)
def resE (P : Prog) (an us : List Int) : Int := if validB P = false then 1 else if choiceB an P.costs.length = false ∨ choiceB us P.costs.length = false then 2 else if 60 < (resRows P an us).length then 3 else 0
def resP (P : Prog) (an us : List Int) : Prog := if resE P an us = 0 then ⟨P.costs, resRows P an us⟩ else ⟨[], []⟩
theorem unitCo_enc (n : Nat) (a : Int) : (unitCo n a).map encI = ((List.replicate n [AV.int .i64 0]).set a.toNat [.int .i64 1]) := by
  rw [unitCo, List.map_set, List.map_replicate]; rfl
theorem unitCo_mod (n : Nat) (a : Int) : (List.replicate n [AV.int .i64 0]).modify a.toNat (fun x => x.set 0 (.int .i64 1)) = (unitCo n a).map encI := by
  rw [unitCo_enc]
  apply List.ext_getElem?
  intro i
  rw [List.getElem?_modify, List.getElem?_set, List.getElem?_replicate, List.length_replicate]
  by_cases h : a.toNat = i
  · subst h
    by_cases h2 : a.toNat < n
    · simp [h2]
    · simp [h2]
  · simp [h]
theorem single_ok (n : Nat) (a v : Int) (hn : n ≤ 1000) (ha : 0 ≤ a ∧ a < n) : Good Try.prog TT false 96 [.int .i64 n, .int .i64 a, .int .i64 v] (· = .agg (encRow (unitRow n a v))) := by
  refine good_of mixed tabOk Try.func96 rfl rfl Try.ntmps96 Try.results96 rfl rfl ?_
  (conv => whnf); (repeat' (first | (refine arith_i ⟨by omega, by omega⟩ ?_; conv => whnf) | (refine arith_u ⟨by omega, by omega⟩ ?_; conv => whnf) | (refine arith_8 ⟨by omega, by omega⟩ ?_; conv => whnf) | (refine need_i (by first | omega | (simp only [List.length_cons, List.length_nil]; omega) | (simp only [List.length_append, List.length_cons, List.length_nil, List.length_map, List.length_replicate, List.length_modify]; omega)) ?_; conv => whnf) | ((with_reducible refine branch_tt ?_); conv => whnf) | ((with_reducible refine branch_ff ?_); conv => whnf) | (with_reducible refine branch_not ?_) | ((refine idx_r (by omega) (by omega) ?_); conv => whnf) | ((with_reducible refine slc_e ?_); conv => whnf) | ((with_reducible refine callS_a ?_); conv => whnf) | ((with_reducible refine bld_a ?_); conv => whnf) | ((with_reducible refine own_e ?_); conv => whnf) | ((with_reducible refine mkmap_b ?_); conv => whnf) | ((with_reducible refine branch_d (fun hq => ?_) (fun hq => ?_)) <;> (try (exfalso; omega)) <;> (conv => whnf)) | ((with_reducible refine branch_e (fun hq => ?_) (fun hq => ?_)) <;> (try (exfalso; omega)) <;> (conv => whnf)) | ((with_reducible refine branch_n (fun hq => ?_) (fun hq => ?_)) <;> (try (exfalso; omega)) <;> (conv => whnf)) | ((with_reducible refine branch_i (fun hq => ?_) (fun hq => ?_)) <;> (try (exfalso; omega)) <;> (conv => whnf))))
  exact ret_a (cs' := encRow (unitRow n a v)) ⟨rc_o' (unitCo_mod n a), rc_p rfl, rc_p rfl, trivial⟩ rfl
theorem free_next {an us : List Int} {k : Nat} {u : Int} (h : us[k]? = some u) : freeL an (us.take (k + 1)) = freeL an (us.take k) ++ (if hasB an u then [] else [u]) := by
  rw [List.take_add_one, h, freeL, freeL, List.filter_append]
  cases hh : hasB an u <;> simp [hh]
theorem res_next {P : Prog} {an us : List Int} {j : Nat} {u : Int} (h : us[j]? = some u) : (resRows P an (us.take (j + 1))).map encRow = (resRows P an (us.take j)).map encRow ++ (if hasB an u then [] else [encRow (unitRow P.costs.length u 0)]) := by
  rw [resRows, resRows, free_next h]
  cases hasB an u <;> simp
end Go.Proofs.Ytiionjpinainlaa
end

/- Layer 11: papers. -/
section
namespace Go.Proofs.Ytiionjpinainlaa
set_option linter.unusedVariables false
set_option linter.unusedSimpArgs false
set_option linter.unnecessarySimpa false
set_option linter.unusedSectionVars false
set_option maxRecDepth 10000
open Go.RowKit
def sumMax : List Prt → Int
  | [] => 0
  | p :: l => p.max + sumMax l
theorem sumMax_app {a b : List Prt} : sumMax (a ++ b) = sumMax a + sumMax b := by
  induction a with
  | nil => simp [sumMax]
  | cons p l ih => rw [List.cons_append, sumMax, sumMax, ih]; omega
theorem sumMax_next {l : List Prt} {k : Nat} {p : Prt} (h : l[k]? = some p) : sumMax (l.take (k + 1)) = sumMax (l.take k) + p.max := by
  rw [List.take_add_one, h, sumMax_app]; simp [sumMax]
theorem vPart_max {p : Prt} (h : vPartB p = true) : 1 ≤ p.max ∧ p.max ≤ 40 := by
  have := of_decide_eq_true h
  omega
theorem sumMax_in {l : List Prt} : (∀ p ∈ l, vPartB p = true) → 0 ≤ sumMax l ∧ sumMax l ≤ 40 * l.length := by
  induction l with
  | nil => intro _; simp [sumMax]
  | cons p l ih =>
    intro h
    have h1 := ih fun q hq => h q (by simp [hq])
    have h2 := vPart_max (h p (by simp))
    rw [sumMax, List.length_cons]
    omega
def papV (code var : Int) (ps : List Prt) : AV := .agg [.int .i64 code, .int .i64 var, .lst 6 (ps.map encPt)]
def pprB (code var : Int) (ps : List Prt) : Bool := decide (0 ≤ code ∧ code ≤ 31 ∧ 0 ≤ var ∧ var < 4 ∧ 1 ≤ (ps.length : Int) ∧ (ps.length : Int) ≤ 24) && ps.all vPartB && decide (sumMax ps ≤ 200)
theorem ppr_bad {code var : Int} {ps : List Prt} (h : ¬ (0 ≤ code ∧ code ≤ 31 ∧ 0 ≤ var ∧ var < 4 ∧ 1 ≤ (ps.length : Int) ∧ (ps.length : Int) ≤ 24)) : pprB code var ps = false := by rw [pprB, decide_eq_false h]; rfl
theorem ppr_part {code var : Int} {ps : List Prt} {k : Nat} {p : Prt} (h : ps[k]? = some p) (hb : vPartB p = false) : pprB code var ps = false := by
  rw [pprB, all_bad h hb]; simp
theorem ppr_sum {code var : Int} {ps : List Prt} (h1 : 0 ≤ code ∧ code ≤ 31 ∧ 0 ≤ var ∧ var < 4 ∧ 1 ≤ (ps.length : Int) ∧ (ps.length : Int) ≤ 24) (h2 : ps.all vPartB = true) : pprB code var ps = decide (sumMax ps ≤ 200) := by rw [pprB, decide_eq_true h1, h2]; rfl
theorem sumOfMax_ok (ps : List Prt) (h : ∀ p ∈ ps, vPartB p = true) (hl : ps.length ≤ 1000) : Good Try.prog TT false 85 [.lst 6 (ps.map encPt)] (· = .int .i64 (sumMax ps)) := by
  have L : (ps.map encPt).length = ps.length := List.length_map ..
  refine good_of mixed tabOk Try.func85 rfl rfl Try.ntmps85 Try.results85 rfl rfl ?_
  (conv => whnf); (repeat' (first | (refine arith_i ⟨by omega, by omega⟩ ?_; conv => whnf) | (refine arith_u ⟨by omega, by omega⟩ ?_; conv => whnf) | (refine arith_8 ⟨by omega, by omega⟩ ?_; conv => whnf) | (refine need_i (by first | omega | (simp only [List.length_cons, List.length_nil]; omega) | (simp only [List.length_append, List.length_cons, List.length_nil, List.length_map, List.length_replicate, List.length_modify]; omega)) ?_; conv => whnf) | ((with_reducible refine branch_tt ?_); conv => whnf) | ((with_reducible refine branch_ff ?_); conv => whnf) | (with_reducible refine branch_not ?_) | ((with_reducible refine slc_e ?_); conv => whnf) | ((with_reducible refine callS_a ?_); conv => whnf) | ((with_reducible refine bld_a ?_); conv => whnf) | ((with_reducible refine own_e ?_); conv => whnf) | ((with_reducible refine mkmap_b ?_); conv => whnf) | ((with_reducible refine branch_d (fun hq => ?_) (fun hq => ?_)) <;> (try (exfalso; omega)) <;> (conv => whnf)) | ((with_reducible refine branch_e (fun hq => ?_) (fun hq => ?_)) <;> (try (exfalso; omega)) <;> (conv => whnf)) | ((with_reducible refine branch_n (fun hq => ?_) (fun hq => ?_)) <;> (try (exfalso; omega)) <;> (conv => whnf)) | ((with_reducible refine branch_i (fun hq => ?_) (fun hq => ?_)) <;> (try (exfalso; omega)) <;> (conv => whnf))))
  refine loop_i (fun k : Nat => k ≤ ps.length) (fun k => mkSt [(3, .int .i64 (sumMax (ps.take k))), (6, .lst 6 (ps.map encPt)), (7, .int .i64 (ps.map encPt).length), (8, .int .i64 k)] [] false) (fun k => ps.length - k) 0 (Nat.zero_le _) (by rw [List.take_zero]; exact (le_mk (by repeat' (first | exact trivial | rfl | apply And.intro)) (by repeat' (first | exact trivial | rfl | apply And.intro)) rfl)) ?_
  intro k hk
  have hs := sumMax_in (l := ps.take k) fun p hp => h p (List.mem_of_mem_take hp)
  have hs2 : (ps.take k).length ≤ 1000 := by simp; omega
  (conv => whnf); (repeat' (first | (refine arith_i ⟨by omega, by omega⟩ ?_; conv => whnf) | (refine arith_u ⟨by omega, by omega⟩ ?_; conv => whnf) | (refine arith_8 ⟨by omega, by omega⟩ ?_; conv => whnf) | (refine need_i (by first | omega | (simp only [List.length_cons, List.length_nil]; omega) | (simp only [List.length_append, List.length_cons, List.length_nil, List.length_map, List.length_replicate, List.length_modify]; omega)) ?_; conv => whnf) | ((with_reducible refine branch_tt ?_); conv => whnf) | ((with_reducible refine branch_ff ?_); conv => whnf) | (with_reducible refine branch_not ?_) | (((refine idx_c (xs := ps) (by omega) fun p hp => ?_; have hpm := vPart_max (h p (List.mem_of_getElem? hp)); have hsn := sumMax_next hp)); conv => whnf) | ((with_reducible refine slc_e ?_); conv => whnf) | ((with_reducible refine callS_a ?_); conv => whnf) | ((with_reducible refine bld_a ?_); conv => whnf) | ((with_reducible refine own_e ?_); conv => whnf) | ((with_reducible refine mkmap_b ?_); conv => whnf) | ((with_reducible refine branch_d (fun hq => ?_) (fun hq => ?_)) <;> (try (exfalso; omega)) <;> (conv => whnf)) | ((with_reducible refine branch_e (fun hq => ?_) (fun hq => ?_)) <;> (try (exfalso; omega)) <;> (conv => whnf)) | ((with_reducible refine branch_n (fun hq => ?_) (fun hq => ?_)) <;> (try (exfalso; omega)) <;> (conv => whnf)) | ((with_reducible refine branch_i (fun hq => ?_) (fun hq => ?_)) <;> (try (exfalso; omega)) <;> (conv => whnf))))
  · exact ⟨k + 1, by omega, le_mk ⟨int_eq hsn.symm, rfl, rfl, rfl, trivial⟩ trivial rfl, by omega⟩
  · have hkk : ps.take k = ps := List.take_of_length_le (by omega)
    exact ret_p rfl (int_eq (by rw [hkk]))
theorem vPaper_ok (code var : Int) (ps : List Prt) (hl : ps.length ≤ 1000000) : Good Try.prog TT false 55 [papV code var ps] (· = .bool (pprB code var ps)) := by
  have L : (ps.map encPt).length = ps.length := List.length_map ..
  refine good_of mixed tabOk Try.func55 rfl rfl Try.ntmps55 Try.results55 rfl rfl ?_
  (conv => whnf); (repeat' (first | (refine arith_i ⟨by omega, by omega⟩ ?_; conv => whnf) | (refine arith_u ⟨by omega, by omega⟩ ?_; conv => whnf) | (refine arith_8 ⟨by omega, by omega⟩ ?_; conv => whnf) | (refine need_i (by first | omega | (simp only [List.length_cons, List.length_nil]; omega) | (simp only [List.length_append, List.length_cons, List.length_nil, List.length_map, List.length_replicate, List.length_modify]; omega)) ?_; conv => whnf) | ((with_reducible refine branch_tt ?_); conv => whnf) | ((with_reducible refine branch_ff ?_); conv => whnf) | (with_reducible refine branch_not ?_) | ((with_reducible refine slc_e ?_); conv => whnf) | ((with_reducible refine callS_a ?_); conv => whnf) | ((with_reducible refine bld_a ?_); conv => whnf) | ((with_reducible refine own_e ?_); conv => whnf) | ((with_reducible refine mkmap_b ?_); conv => whnf) | ((with_reducible refine branch_d (fun hq => ?_) (fun hq => ?_)) <;> (try (exfalso; omega)) <;> (conv => whnf)) | ((with_reducible refine branch_e (fun hq => ?_) (fun hq => ?_)) <;> (try (exfalso; omega)) <;> (conv => whnf)) | ((with_reducible refine branch_n (fun hq => ?_) (fun hq => ?_)) <;> (try (exfalso; omega)) <;> (conv => whnf)) | ((with_reducible refine branch_i (fun hq => ?_) (fun hq => ?_)) <;> (try (exfalso; omega)) <;> (conv => whnf))))
  all_goals first
    | exact ret_p rfl (bool_eq (ppr_bad (by omega)).symm)
    | skip
  have hc : 0 ≤ code ∧ code ≤ 31 ∧ 0 ≤ var ∧ var < 4 ∧ 1 ≤ (ps.length : Int) ∧ (ps.length : Int) ≤ 24 := by omega
  refine loop_i (fun k : Nat => k ≤ ps.length ∧ ∀ i x, i < k → ps[i]? = some x → vPartB x = true) (fun k => mkSt [(1, .ptr 1 0), (34, .lst 6 (ps.map encPt)), (35, .int .i64 (ps.map encPt).length), (36, .int .i64 k)] [(1, [.int .i64 code, .int .i64 var, .lst 6 (ps.map encPt)])] false) (fun k => ps.length - k) 0 ⟨Nat.zero_le _, fun i x hi => by omega⟩ (le_mk (by repeat' (first | exact trivial | rfl | apply And.intro)) (by repeat' (first | exact trivial | rfl | apply And.intro)) rfl) ?_
  rintro k ⟨hk, hall⟩
  rcases Nat.lt_or_ge k ps.length with hkl | hkl
  · (conv => whnf); (repeat' (first | (refine arith_i ⟨by omega, by omega⟩ ?_; conv => whnf) | (refine arith_u ⟨by omega, by omega⟩ ?_; conv => whnf) | (refine arith_8 ⟨by omega, by omega⟩ ?_; conv => whnf) | (refine need_i (by first | omega | (simp only [List.length_cons, List.length_nil]; omega) | (simp only [List.length_append, List.length_cons, List.length_nil, List.length_map, List.length_replicate, List.length_modify]; omega)) ?_; conv => whnf) | ((with_reducible refine branch_tt ?_); conv => whnf) | ((with_reducible refine branch_ff ?_); conv => whnf) | (with_reducible refine branch_not ?_) | (((refine idx_c (xs := ps) (by omega) fun p hp => ?_)); conv => whnf) | ((refine call_e (vPart_ok p) ?_); conv => whnf) | ((with_reducible refine slc_e ?_); conv => whnf) | ((with_reducible refine callS_a ?_); conv => whnf) | ((with_reducible refine bld_a ?_); conv => whnf) | ((with_reducible refine own_e ?_); conv => whnf) | ((with_reducible refine mkmap_b ?_); conv => whnf) | ((with_reducible refine branch_d (fun hq => ?_) (fun hq => ?_)) <;> (try (exfalso; omega)) <;> (conv => whnf)) | ((with_reducible refine branch_e (fun hq => ?_) (fun hq => ?_)) <;> (try (exfalso; omega)) <;> (conv => whnf)) | ((with_reducible refine branch_n (fun hq => ?_) (fun hq => ?_)) <;> (try (exfalso; omega)) <;> (conv => whnf)) | ((with_reducible refine branch_i (fun hq => ?_) (fun hq => ?_)) <;> (try (exfalso; omega)) <;> (conv => whnf))))
    all_goals first
      | exact ret_p rfl (bool_eq (ppr_part hp (by assumption)).symm)
      | (refine ⟨k + 1, ⟨by omega, fun i x hi hx => ?_⟩, (le_mk (by repeat' (first | exact trivial | rfl | apply And.intro)) (by repeat' (first | exact trivial | rfl | apply And.intro)) rfl), by omega⟩
         by_cases e : i = k
         · subst e; rw [hp] at hx; injection hx with hx; subst hx; assumption
         · exact hall i x (by omega) hx)
  · have hA := all_goodL (p := vPartB) hkl hall
    have hm : ∀ p ∈ ps, vPartB p = true := List.all_eq_true.1 hA
    (conv => whnf); (repeat' (first | (refine arith_i ⟨by omega, by omega⟩ ?_; conv => whnf) | (refine arith_u ⟨by omega, by omega⟩ ?_; conv => whnf) | (refine arith_8 ⟨by omega, by omega⟩ ?_; conv => whnf) | (refine need_i (by first | omega | (simp only [List.length_cons, List.length_nil]; omega) | (simp only [List.length_append, List.length_cons, List.length_nil, List.length_map, List.length_replicate, List.length_modify]; omega)) ?_; conv => whnf) | ((with_reducible refine branch_tt ?_); conv => whnf) | ((with_reducible refine branch_ff ?_); conv => whnf) | (with_reducible refine branch_not ?_) | ((refine call_e (sumOfMax_ok ps hm (by omega)) ?_); conv => whnf) | ((with_reducible refine slc_e ?_); conv => whnf) | ((with_reducible refine callS_a ?_); conv => whnf) | ((with_reducible refine bld_a ?_); conv => whnf) | ((with_reducible refine own_e ?_); conv => whnf) | ((with_reducible refine mkmap_b ?_); conv => whnf) | ((with_reducible refine branch_d (fun hq => ?_) (fun hq => ?_)) <;> (try (exfalso; omega)) <;> (conv => whnf)) | ((with_reducible refine branch_e (fun hq => ?_) (fun hq => ?_)) <;> (try (exfalso; omega)) <;> (conv => whnf)) | ((with_reducible refine branch_n (fun hq => ?_) (fun hq => ?_)) <;> (try (exfalso; omega)) <;> (conv => whnf)) | ((with_reducible refine branch_i (fun hq => ?_) (fun hq => ?_)) <;> (try (exfalso; omega)) <;> (conv => whnf))))
    exact ret_p rfl (bool_eq (ppr_sum hc hA).symm)
theorem rPaper_ok (code var : Int) (ps : List Prt) (hl : ps.length ≤ 1000000) : Good Try.prog TT false 57 [papV code var ps] (· = .bool (pprB code var ps)) := by
  have L : (ps.map encPt).length = ps.length := List.length_map ..
  refine good_of mixed tabOk Try.func57 rfl rfl Try.ntmps57 Try.results57 rfl rfl ?_
  (conv => whnf); (repeat' (first | (refine arith_i ⟨by omega, by omega⟩ ?_; conv => whnf) | (refine arith_u ⟨by omega, by omega⟩ ?_; conv => whnf) | (refine arith_8 ⟨by omega, by omega⟩ ?_; conv => whnf) | (refine need_i (by first | omega | (simp only [List.length_cons, List.length_nil]; omega) | (simp only [List.length_append, List.length_cons, List.length_nil, List.length_map, List.length_replicate, List.length_modify]; omega)) ?_; conv => whnf) | ((with_reducible refine branch_tt ?_); conv => whnf) | ((with_reducible refine branch_ff ?_); conv => whnf) | (with_reducible refine branch_not ?_) | ((with_reducible refine slc_e ?_); conv => whnf) | ((with_reducible refine callS_a ?_); conv => whnf) | ((with_reducible refine bld_a ?_); conv => whnf) | ((with_reducible refine own_e ?_); conv => whnf) | ((with_reducible refine mkmap_b ?_); conv => whnf) | ((with_reducible refine branch_d (fun hq => ?_) (fun hq => ?_)) <;> (try (exfalso; omega)) <;> (conv => whnf)) | ((with_reducible refine branch_e (fun hq => ?_) (fun hq => ?_)) <;> (try (exfalso; omega)) <;> (conv => whnf)) | ((with_reducible refine branch_n (fun hq => ?_) (fun hq => ?_)) <;> (try (exfalso; omega)) <;> (conv => whnf)) | ((with_reducible refine branch_i (fun hq => ?_) (fun hq => ?_)) <;> (try (exfalso; omega)) <;> (conv => whnf))))
  all_goals first
    | exact ret_p rfl (bool_eq (ppr_bad (by omega)).symm)
    | skip
  have hc : 0 ≤ code ∧ code ≤ 31 ∧ 0 ≤ var ∧ var < 4 ∧ 1 ≤ (ps.length : Int) ∧ (ps.length : Int) ≤ 24 := by omega
  refine loop_i (fun k : Nat => k ≤ ps.length ∧ ∀ i x, i < k → ps[i]? = some x → vPartB x = true) (fun k => mkSt [(1, .ptr 1 0), (3, .int .i64 (sumMax (ps.take k))), (4, .int .i64 k)] [(1, [.int .i64 code, .int .i64 var, .lst 6 (ps.map encPt)])] false) (fun k => ps.length - k) 0 ⟨Nat.zero_le _, fun i x hi => by omega⟩ (by rw [List.take_zero]; exact (le_mk (by repeat' (first | exact trivial | rfl | apply And.intro)) (by repeat' (first | exact trivial | rfl | apply And.intro)) rfl)) ?_
  rintro k ⟨hk, hall⟩
  have hs := sumMax_in (l := ps.take k) fun p hp => by
    obtain ⟨i, hi⟩ := List.getElem?_of_mem hp
    rw [List.getElem?_take] at hi
    split at hi
    · next h => exact hall i p h hi
    · cases hi
  have hs2 : (ps.take k).length ≤ 24 := by simp; omega
  rcases Nat.lt_or_ge k ps.length with hkl | hkl
  · obtain ⟨p, hp⟩ : ∃ p, ps[k]? = some p := ⟨_, List.getElem?_eq_getElem hkl⟩
    have hsn := sumMax_next hp
    cases hvp : vPartB p with
    | false =>
      (conv => whnf); (repeat' (first | (refine arith_i ⟨by omega, by omega⟩ ?_; conv => whnf) | (refine arith_u ⟨by omega, by omega⟩ ?_; conv => whnf) | (refine arith_8 ⟨by omega, by omega⟩ ?_; conv => whnf) | (refine need_i (by first | omega | (simp only [List.length_cons, List.length_nil]; omega) | (simp only [List.length_append, List.length_cons, List.length_nil, List.length_map, List.length_replicate, List.length_modify]; omega)) ?_; conv => whnf) | ((with_reducible refine branch_tt ?_); conv => whnf) | ((with_reducible refine branch_ff ?_); conv => whnf) | (with_reducible refine branch_not ?_) | ((refine idx_cs hp ?_); conv => whnf) | ((refine call_e ((rPart_ok p).mono fun r h => h.trans (bool_eq hvp)) ?_); conv => whnf) | ((with_reducible refine slc_e ?_); conv => whnf) | ((with_reducible refine callS_a ?_); conv => whnf) | ((with_reducible refine bld_a ?_); conv => whnf) | ((with_reducible refine own_e ?_); conv => whnf) | ((with_reducible refine mkmap_b ?_); conv => whnf) | ((with_reducible refine branch_d (fun hq => ?_) (fun hq => ?_)) <;> (try (exfalso; omega)) <;> (conv => whnf)) | ((with_reducible refine branch_e (fun hq => ?_) (fun hq => ?_)) <;> (try (exfalso; omega)) <;> (conv => whnf)) | ((with_reducible refine branch_n (fun hq => ?_) (fun hq => ?_)) <;> (try (exfalso; omega)) <;> (conv => whnf)) | ((with_reducible refine branch_i (fun hq => ?_) (fun hq => ?_)) <;> (try (exfalso; omega)) <;> (conv => whnf))))
      all_goals first
        | exact ret_p rfl (bool_eq (ppr_part hp hvp).symm)
        | (exfalso; exact absurd hq (by decide))
    | true =>
      have hpm := vPart_max hvp
      (conv => whnf); (repeat' (first | (refine arith_i ⟨by omega, by omega⟩ ?_; conv => whnf) | (refine arith_u ⟨by omega, by omega⟩ ?_; conv => whnf) | (refine arith_8 ⟨by omega, by omega⟩ ?_; conv => whnf) | (refine need_i (by first | omega | (simp only [List.length_cons, List.length_nil]; omega) | (simp only [List.length_append, List.length_cons, List.length_nil, List.length_map, List.length_replicate, List.length_modify]; omega)) ?_; conv => whnf) | ((with_reducible refine branch_tt ?_); conv => whnf) | ((with_reducible refine branch_ff ?_); conv => whnf) | (with_reducible refine branch_not ?_) | ((refine idx_cs hp ?_); conv => whnf) | ((refine call_e ((rPart_ok p).mono fun r h => h.trans (bool_eq hvp)) ?_); conv => whnf) | ((with_reducible refine slc_e ?_); conv => whnf) | ((with_reducible refine callS_a ?_); conv => whnf) | ((with_reducible refine bld_a ?_); conv => whnf) | ((with_reducible refine own_e ?_); conv => whnf) | ((with_reducible refine mkmap_b ?_); conv => whnf) | ((with_reducible refine branch_d (fun hq => ?_) (fun hq => ?_)) <;> (try (exfalso; omega)) <;> (conv => whnf)) | ((with_reducible refine branch_e (fun hq => ?_) (fun hq => ?_)) <;> (try (exfalso; omega)) <;> (conv => whnf)) | ((with_reducible refine branch_n (fun hq => ?_) (fun hq => ?_)) <;> (try (exfalso; omega)) <;> (conv => whnf)) | ((with_reducible refine branch_i (fun hq => ?_) (fun hq => ?_)) <;> (try (exfalso; omega)) <;> (conv => whnf))))
      refine ⟨k + 1, ⟨by omega, fun i x hi hx => ?_⟩, le_mk ⟨rfl, int_eq hsn.symm, rfl, trivial⟩ ⟨rfl, trivial⟩ rfl, by omega⟩
      by_cases e : i = k
      · subst e; rw [hp] at hx; injection hx with hx; subst hx; exact hvp
      · exact hall i x (by omega) hx
  · have hA := all_goodL (p := vPartB) hkl hall
    have hkk : ps.take k = ps := List.take_of_length_le hkl
    (conv => whnf); (repeat' (first | (refine arith_i ⟨by omega, by omega⟩ ?_; conv => whnf) | (refine arith_u ⟨by omega, by omega⟩ ?_; conv => whnf) | (refine arith_8 ⟨by omega, by omega⟩ ?_; conv => whnf) | (refine need_i (by first | omega | (simp only [List.length_cons, List.length_nil]; omega) | (simp only [List.length_append, List.length_cons, List.length_nil, List.length_map, List.length_replicate, List.length_modify]; omega)) ?_; conv => whnf) | ((with_reducible refine branch_tt ?_); conv => whnf) | ((with_reducible refine branch_ff ?_); conv => whnf) | (with_reducible refine branch_not ?_) | ((with_reducible refine slc_e ?_); conv => whnf) | ((with_reducible refine callS_a ?_); conv => whnf) | ((with_reducible refine bld_a ?_); conv => whnf) | ((with_reducible refine own_e ?_); conv => whnf) | ((with_reducible refine mkmap_b ?_); conv => whnf) | ((with_reducible refine branch_d (fun hq => ?_) (fun hq => ?_)) <;> (try (exfalso; omega)) <;> (conv => whnf)) | ((with_reducible refine branch_e (fun hq => ?_) (fun hq => ?_)) <;> (try (exfalso; omega)) <;> (conv => whnf)) | ((with_reducible refine branch_n (fun hq => ?_) (fun hq => ?_)) <;> (try (exfalso; omega)) <;> (conv => whnf)) | ((with_reducible refine branch_i (fun hq => ?_) (fun hq => ?_)) <;> (try (exfalso; omega)) <;> (conv => whnf))))
    exact ret_p rfl (bool_eq (by rw [hkk]; exact (ppr_sum hc hA).symm))
end Go.Proofs.Ytiionjpinainlaa
end

/- Layer 11: Paper, of the program and of the reference. -/
section
namespace Go.Proofs.Ytiionjpinainlaa
set_option linter.unusedVariables false
set_option linter.unusedSimpArgs false
set_option linter.unnecessarySimpa false
set_option linter.unusedSectionVars false
set_option maxRecDepth 10000
open Go.RowKit
def plGL11u_0 : Plan := (.take 0 (.take 1 (.take 2 (.take 3 (.take 4 (.take 5 (.take 6 (.alt 7 (.take 8 (.alt 9 .done .stop)) .stop))))))))
def plGL11u_1 : Plan := (.take 0 (.take 1 (.take 2 (.take 3 (.take 4 (.take 5 (.alt 6 (.alt 7 (.take 8 (.alt 9 .done .stop)) .stop) .stop)))))))
def plGL11u_2 : Plan := (.take 0 (.take 2 (.take 3 (.take 4 (.take 5 (.alt 1 (.alt 6 (.alt 7 (.take 8 (.alt 9 .done .stop)) .stop) .stop) (.alt 6 (.alt 1 (.alt 7 (.take 8 (.alt 9 .done .stop)) .stop) .stop) .stop)))))))
def plGL11u_3 : Plan := (.take 0 (.take 1 (.take 2 (.take 3 (.take 4 (.take 5 (.take 6 (.take 7 (.take 8 (.take 9 (.alt 10 (.take 11 (.alt 12 .done .stop)) .stop)))))))))))
def plGL11u_4 : Plan := (.take 0 (.take 1 (.take 2 (.take 3 (.take 4 (.take 5 (.alt 6 (.take 7 (.take 8 (.alt 9 (.alt 10 (.take 11 (.alt 12 .done .stop)) .stop) .stop))) .stop)))))))
def plGL11u_5 : Plan := (.take 0 (.take 2 (.take 3 (.take 4 (.take 5 (.alt 1 (.alt 6 (.take 7 (.take 8 (.alt 9 (.alt 10 (.take 11 (.alt 12 .done .stop)) .stop) .stop))) .stop) (.alt 6 (.take 7 (.take 8 (.alt 1 (.alt 9 (.alt 10 (.take 11 (.alt 12 .done .stop)) .stop) .stop) (.alt 9 (.alt 1 (.alt 10 (.take 11 (.alt 12 .done .stop)) .stop) .stop) .stop)))) .stop)))))))
def prtsOf (l : List Itm) : List Prt := l.flatMap (·.parts)
theorem prts_next {l : List Itm} {k : Nat} {x : Itm} (h : l[k]? = some x) : prtsOf (l.take (k + 1)) = prtsOf (l.take k) ++ x.parts := by
  rw [List.take_add_one, h, prtsOf, prtsOf, List.flatMap_append]; simp
theorem prts_len {l : List Itm} (h : ∀ x ∈ l, x.parts.length ≤ 1000) : (prtsOf l).length ≤ 1000 * l.length := by
  induction l with
  | nil => simp [prtsOf]
  | cons x l ih =>
    have h1 := ih fun y hy => h y (by simp [hy])
    have h2 := h x (by simp)
    have e : prtsOf (x :: l) = x.parts ++ prtsOf l := rfl
    rw [e, List.length_append, List.length_cons]
    omega
def papE (items : List Itm) (ch : List Int) (code var : Int) : Int := if choiceB ch items.length = false then 2 else if (chosenF items ch).all (fun x => decide (itemF x = 0)) = false then 1 else if pprB code var (prtsOf (chosenF items ch)) = false then 1 else 0
def papR (items : List Itm) (ch : List Int) (code var : Int) : AV := .tup [if papE items ch code var = 0 then papV code var (prtsOf (chosenF items ch)) else papV 0 0 [], .int .i64 (papE items ch code var)]
theorem pap_err {items : List Itm} {ch : List Int} {code var e : Int} (h : papE items ch code var = e) (he : e ≠ 0) : aret (.tup [.agg [.int .i64 0, .int .i64 0, .nil], .int .i64 e]) (· = papR items ch code var) :=
  ret_t (rs := [papV 0 0 [], .int .i64 e]) ⟨.inr ⟨_, _, rfl, rfl, rc_p rfl, rc_p rfl, rc_n, trivial⟩, (rc_p rfl).g, trivial⟩ (by rw [papR, h, if_neg he])
theorem pap_fin {items : List Itm} {ch : List Int} {code var : Int} (h : papE items ch code var = 0) {t : Tg} {es : List (List AV)} (h2 : es = (prtsOf (chosenF items ch)).map encPt) : aret (.tup [.agg [.int .i64 code, .int .i64 var, .own t 72 6 es], .int .i64 0]) (· = papR items ch code var) :=
  ret_t (rs := [papV code var (prtsOf (chosenF items ch)), .int .i64 0]) ⟨.inr ⟨_, _, rfl, rfl, rc_p rfl, rc_p rfl, rc_o' h2, trivial⟩, (rc_p rfl).g, trivial⟩ (by rw [papR, h, if_pos rfl])
theorem pap_e1 {items : List Itm} {ch : List Int} {code var : Int} {k : Nat} {x : Itm} (h3 : choiceB ch items.length = true) (hx : (chosenF items ch)[k]? = some x) (he : itemF x ≠ 0) : papE items ch code var = 1 := by
  rw [papE, if_neg (by simp [h3]), if_pos (all_bad hx (decide_eq_false he))]
theorem pap_e {items : List Itm} {ch : List Int} {code var : Int} (h3 : choiceB ch items.length = true) (hx : ∀ i x, i < ch.length → (chosenF items ch)[i]? = some x → itemF x = 0) : papE items ch code var = if pprB code var (prtsOf (chosenF items ch)) = false then 1 else 0 := by
  have LF : (chosenF items ch).length = ch.length := by simp [chosenF]
  rw [papE, if_neg (by simp [h3]), if_neg]
  rw [all_goodL (k := ch.length) (by omega) fun i x hi hh => decide_eq_true (hx i x hi hh)]
  decide
set_option maxHeartbeats 4000000 in
theorem paper_ok (items : List Itm) (ch : List Int) (code var : Int) (hi : items.length ≤ 100) (hs : ∀ x ∈ items, ItmS x) (hc : ch.length ≤ 9223372036854775807) : Good Try.prog TT false 26 [itmsV items, ints ch, .int .i64 code, .int .i64 var] (· = papR items ch code var) := by
  have LI : (items.map encX).length = items.length := List.length_map ..
  have LH : (ch.map encI).length = ch.length := List.length_map ..
  have LF : (chosenF items ch).length = ch.length := by simp [chosenF]
  refine good_of mixed tabOk Try.func26 rfl rfl Try.ntmps26 Try.results26 rfl rfl ?_
  (conv => whnf); (repeat' (first | (refine arith_i ⟨by omega, by omega⟩ ?_; conv => whnf) | (refine arith_u ⟨by omega, by omega⟩ ?_; conv => whnf) | (refine arith_8 ⟨by omega, by omega⟩ ?_; conv => whnf) | (refine need_i (by first | omega | (simp only [List.length_cons, List.length_nil]; omega) | (simp only [List.length_append, List.length_cons, List.length_nil, List.length_map, List.length_replicate, List.length_modify]; omega)) ?_; conv => whnf) | ((with_reducible refine branch_tt ?_); conv => whnf) | ((with_reducible refine branch_ff ?_); conv => whnf) | (with_reducible refine branch_not ?_) | (((rw [LI]; refine call_e (pChoice_any ch items.length hc (by omega)) ?_)); conv => whnf) | ((with_reducible refine slc_e ?_); conv => whnf) | ((with_reducible refine callS_a ?_); conv => whnf) | ((with_reducible refine bld_a ?_); conv => whnf) | ((with_reducible refine own_e ?_); conv => whnf) | ((with_reducible refine mkmap_b ?_); conv => whnf) | (refine draw_i 9 plGL11u_0 (by decide +kernel) ?_; (conv => whnf); fail_if_success (guard_target =~ False)) | (refine draw_i 9 plGL11u_1 (by decide +kernel) ?_; (conv => whnf); fail_if_success (guard_target =~ False)) | (refine draw_i 9 plGL11u_2 (by decide +kernel) ?_; (conv => whnf); fail_if_success (guard_target =~ False)) | ((with_reducible refine And.intro ?_ ?_) <;> (conv => whnf)) | (with_reducible exact trivial) | ((with_reducible refine branch_d (fun hq => ?_) (fun hq => ?_)) <;> (try (exfalso; omega)) <;> (conv => whnf)) | ((with_reducible refine branch_e (fun hq => ?_) (fun hq => ?_)) <;> (try (exfalso; omega)) <;> (conv => whnf)) | ((with_reducible refine branch_n (fun hq => ?_) (fun hq => ?_)) <;> (try (exfalso; omega)) <;> (conv => whnf)) | ((with_reducible refine branch_i (fun hq => ?_) (fun hq => ?_)) <;> (try (exfalso; omega)) <;> (conv => whnf))))
  all_goals try exact pap_err (e := 2) (by rw [papE, if_pos (by assumption)]) (by omega)
  have hch : choiceB ch items.length = true := by assumption
  refine loop_i (fun k : Nat => k ≤ ch.length ∧ ∀ i x, i < k → (chosenF items ch)[i]? = some x → itemF x = 0) (fun k => mkSt [(0, itmsV items), (8, .ptr 8 0), (10, .ptr 10 0), (22, ints ch), (23, .int .i64 (ch.map encI).length), (24, .int .i64 k)] [(8, [.int .i64 0, .int .i64 0, .nil]), (10, [.int .i64 code, .int .i64 var, .own 900 72 6 ((prtsOf ((chosenF items ch).take k)).map encPt)])] false) (fun k => ch.length - k) 0 ⟨Nat.zero_le _, nofun⟩ (Le.trans (le_adoptBox 10 2 900 72 6 rfl rfl) (le_mk (by repeat' (first | exact trivial | rfl | apply And.intro)) (by repeat' (first | exact trivial | rfl | apply And.intro)) rfl)) ?_
  rintro k ⟨hk, hall⟩
  have hcl := choice_len hch
  have LP : (prtsOf ((chosenF items ch).take k)).length ≤ 1000 * k := by
    have := prts_len (l := (chosenF items ch).take k) fun x hx => by
      obtain ⟨i, hi'⟩ := List.getElem?_of_mem hx
      rw [List.getElem?_take] at hi'
      split at hi'
      · next h =>
        obtain ⟨c, hcc⟩ : ∃ c, ch[i]? = some c := ⟨_, List.getElem?_eq_getElem (by omega)⟩
        have hcb := choice_elt hch hcc
        obtain ⟨y, hy⟩ : ∃ y, items[c.toNat]? = some y := ⟨_, List.getElem?_eq_getElem (by omega)⟩
        rw [chosen_at hcc hy] at hi'
        injection hi' with hi'
        subst hi'
        exact (hs y (List.mem_of_getElem? hy)).2.1
      · cases hi'
    have hlt : ((chosenF items ch).take k).length = k := by simp; omega
    rw [hlt] at this
    exact this
  have LP2 : ((prtsOf ((chosenF items ch).take k)).map encPt).length = (prtsOf ((chosenF items ch).take k)).length := List.length_map ..
  (conv => whnf); (repeat' (first | (refine arith_i ⟨by omega, by omega⟩ ?_; conv => whnf) | (refine arith_u ⟨by omega, by omega⟩ ?_; conv => whnf) | (refine arith_8 ⟨by omega, by omega⟩ ?_; conv => whnf) | (refine need_i (by first | omega | (simp only [List.length_cons, List.length_nil]; omega) | (simp only [List.length_append, List.length_cons, List.length_nil, List.length_map, List.length_replicate, List.length_modify]; omega)) ?_; conv => whnf) | ((with_reducible refine branch_tt ?_); conv => whnf) | ((with_reducible refine branch_ff ?_); conv => whnf) | (with_reducible refine branch_not ?_) | ((refine idx_cs (by assumption) ?_); conv => whnf) | (((refine idx_c (xs := ch) (by omega) fun c hcc => ?_; have hcb := choice_elt hch hcc)); conv => whnf) | ((refine idx_ms (by omega) (by assumption) ?_); conv => whnf) | (((refine idx_m (xs := items) (by omega) (by omega) fun x hx => ?_; have hxs := hs x (List.mem_of_getElem? hx); have hxk := chosen_at hcc hx; have LX : (x.parts.map encPt).length = x.parts.length := (List.length_map ..); have hxp := hxs.2.1)); conv => whnf) | ((refine call_e (iCheck_ok x (by have := hxs.1; omega) (by have := hxs.2.1; omega) (by have := hxs.2.2; omega)) ?_); conv => whnf) | ((refine call_e (vPaper_ok code var (prtsOf ((chosenF items ch).take k)) (by omega)) ?_); conv => whnf) | ((with_reducible refine slc_e ?_); conv => whnf) | ((with_reducible refine callS_a ?_); conv => whnf) | ((with_reducible refine bld_a ?_); conv => whnf) | ((with_reducible refine own_e ?_); conv => whnf) | ((with_reducible refine mkmap_b ?_); conv => whnf) | (refine draw_i 9 plGL11u_0 (by decide +kernel) ?_; (conv => whnf); fail_if_success (guard_target =~ False)) | (refine draw_i 9 plGL11u_1 (by decide +kernel) ?_; (conv => whnf); fail_if_success (guard_target =~ False)) | (refine draw_i 9 plGL11u_2 (by decide +kernel) ?_; (conv => whnf); fail_if_success (guard_target =~ False)) | ((with_reducible refine And.intro ?_ ?_) <;> (conv => whnf)) | (with_reducible exact trivial) | ((with_reducible refine branch_d (fun hq => ?_) (fun hq => ?_)) <;> (try (exfalso; omega)) <;> (conv => whnf)) | ((with_reducible refine branch_e (fun hq => ?_) (fun hq => ?_)) <;> (try (exfalso; omega)) <;> (conv => whnf)) | ((with_reducible refine branch_n (fun hq => ?_) (fun hq => ?_)) <;> (try (exfalso; omega)) <;> (conv => whnf)) | ((with_reducible refine branch_i (fun hq => ?_) (fun hq => ?_)) <;> (try (exfalso; omega)) <;> (conv => whnf))))
  all_goals first
    | exact pap_err (e := 1) (pap_e1 hch hxk (by assumption)) (by omega)
    | skip
  · refine ⟨k + 1, ⟨by omega, fun i y hiy hy => ?_⟩, by rw [prts_next hxk, List.map_append]; exact (le_mk (by repeat' (first | exact trivial | rfl | apply And.intro)) (by repeat' (first | exact trivial | rfl | apply And.intro)) rfl), by omega⟩
    by_cases e : i = k
    · subst e
      rw [hxk] at hy
      injection hy with hy
      subst hy
      omega
    · exact hall i y (by omega) hy
  all_goals
    have hkk : (chosenF items ch).take k = chosenF items ch := List.take_of_length_le (by omega)
    have hpe := pap_e (code := code) (var := var) hch fun i x hi => hall i x (by omega)
    rw [hkk] at hq
    first
      | exact pap_fin (by rw [hpe, if_neg (by rw [hq]; decide)]) (by rw [hkk])
      | exact pap_err (e := 1) (by rw [hpe, if_pos hq]) (by omega)
set_option maxHeartbeats 4000000 in
theorem rPap_ok (items : List Itm) (ch : List Int) (code var : Int) (hi : items.length ≤ 100) (hs : ∀ x ∈ items, ItmS x) (hc : ch.length ≤ 9223372036854775807) : Good Try.prog TT false 27 [itmsV items, ints ch, .int .i64 code, .int .i64 var] (· = papR items ch code var) := by
  have LI : (items.map encX).length = items.length := List.length_map ..
  have LH : (ch.map encI).length = ch.length := List.length_map ..
  have LF : (chosenF items ch).length = ch.length := by simp [chosenF]
  refine good_of mixed tabOk Try.func27 rfl rfl Try.ntmps27 Try.results27 rfl rfl ?_
  (conv => whnf); (repeat' (first | (refine arith_i ⟨by omega, by omega⟩ ?_; conv => whnf) | (refine arith_u ⟨by omega, by omega⟩ ?_; conv => whnf) | (refine arith_8 ⟨by omega, by omega⟩ ?_; conv => whnf) | (refine need_i (by first | omega | (simp only [List.length_cons, List.length_nil]; omega) | (simp only [List.length_append, List.length_cons, List.length_nil, List.length_map, List.length_replicate, List.length_modify]; omega)) ?_; conv => whnf) | ((with_reducible refine branch_tt ?_); conv => whnf) | ((with_reducible refine branch_ff ?_); conv => whnf) | (with_reducible refine branch_not ?_) | (((rw [LI]; refine call_e (rChoice_any ch items.length hc (by omega)) ?_)); conv => whnf) | ((with_reducible refine slc_e ?_); conv => whnf) | ((with_reducible refine callS_a ?_); conv => whnf) | ((with_reducible refine bld_a ?_); conv => whnf) | ((with_reducible refine own_e ?_); conv => whnf) | ((with_reducible refine mkmap_b ?_); conv => whnf) | (refine draw_i 12 plGL11u_3 (by decide +kernel) ?_; (conv => whnf); fail_if_success (guard_target =~ False)) | (refine draw_i 12 plGL11u_4 (by decide +kernel) ?_; (conv => whnf); fail_if_success (guard_target =~ False)) | (refine draw_i 12 plGL11u_5 (by decide +kernel) ?_; (conv => whnf); fail_if_success (guard_target =~ False)) | ((with_reducible refine And.intro ?_ ?_) <;> (conv => whnf)) | (with_reducible exact trivial) | ((with_reducible refine branch_d (fun hq => ?_) (fun hq => ?_)) <;> (try (exfalso; omega)) <;> (conv => whnf)) | ((with_reducible refine branch_e (fun hq => ?_) (fun hq => ?_)) <;> (try (exfalso; omega)) <;> (conv => whnf)) | ((with_reducible refine branch_n (fun hq => ?_) (fun hq => ?_)) <;> (try (exfalso; omega)) <;> (conv => whnf)) | ((with_reducible refine branch_i (fun hq => ?_) (fun hq => ?_)) <;> (try (exfalso; omega)) <;> (conv => whnf))))
  all_goals try exact pap_err (e := 2) (by rw [papE, if_pos (by assumption)]) (by omega)
  have hch : choiceB ch items.length = true := by assumption
  refine loop_i (fun k : Nat => k ≤ ch.length ∧ ∀ i x, i < k → (chosenF items ch)[i]? = some x → itemF x = 0) (fun k => mkSt [(0, itmsV items), (1, ints ch), (8, .ptr 8 0), (10, .ptr 10 0), (11, .int .i64 k)] [(8, [.int .i64 0, .int .i64 0, .nil]), (10, [.int .i64 code, .int .i64 var, .own 900 72 6 ((prtsOf ((chosenF items ch).take k)).map encPt)])] false) (fun k => ch.length - k) 0 ⟨Nat.zero_le _, nofun⟩ (Le.trans (le_adoptBox 10 2 900 72 6 rfl rfl) (le_mk (by repeat' (first | exact trivial | rfl | apply And.intro)) (by repeat' (first | exact trivial | rfl | apply And.intro)) rfl)) ?_
  rintro k ⟨hk, hall⟩
  have hcl := choice_len hch
  have LP : (prtsOf ((chosenF items ch).take k)).length ≤ 1000 * k := by
    have := prts_len (l := (chosenF items ch).take k) fun x hx => by
      obtain ⟨i, hi'⟩ := List.getElem?_of_mem hx
      rw [List.getElem?_take] at hi'
      split at hi'
      · next h =>
        obtain ⟨c, hcc⟩ : ∃ c, ch[i]? = some c := ⟨_, List.getElem?_eq_getElem (by omega)⟩
        have hcb := choice_elt hch hcc
        obtain ⟨y, hy⟩ : ∃ y, items[c.toNat]? = some y := ⟨_, List.getElem?_eq_getElem (by omega)⟩
        rw [chosen_at hcc hy] at hi'
        injection hi' with hi'
        subst hi'
        exact (hs y (List.mem_of_getElem? hy)).2.1
      · cases hi'
    have hlt : ((chosenF items ch).take k).length = k := by simp; omega
    rw [hlt] at this
    exact this
  have LP2 : ((prtsOf ((chosenF items ch).take k)).map encPt).length = (prtsOf ((chosenF items ch).take k)).length := List.length_map ..
  (conv => whnf); (repeat' (first | (refine arith_i ⟨by omega, by omega⟩ ?_; conv => whnf) | (refine arith_u ⟨by omega, by omega⟩ ?_; conv => whnf) | (refine arith_8 ⟨by omega, by omega⟩ ?_; conv => whnf) | (refine need_i (by first | omega | (simp only [List.length_cons, List.length_nil]; omega) | (simp only [List.length_append, List.length_cons, List.length_nil, List.length_map, List.length_replicate, List.length_modify]; omega)) ?_; conv => whnf) | ((with_reducible refine branch_tt ?_); conv => whnf) | ((with_reducible refine branch_ff ?_); conv => whnf) | (with_reducible refine branch_not ?_) | ((refine idx_cs (by assumption) ?_); conv => whnf) | (((refine idx_c (xs := ch) (by omega) fun c hcc => ?_; have hcb := choice_elt hch hcc)); conv => whnf) | ((refine idx_ms (by omega) (by assumption) ?_); conv => whnf) | (((refine idx_m (xs := items) (by omega) (by omega) fun x hx => ?_; have hxs := hs x (List.mem_of_getElem? hx); have hxk := chosen_at hcc hx; have LX : (x.parts.map encPt).length = x.parts.length := (List.length_map ..); have hxp := hxs.2.1)); conv => whnf) | ((refine call_e (rICheck_ok x (by have := hxs.1; omega) (by have := hxs.2.1; omega) (by have := hxs.2.2; omega)) ?_); conv => whnf) | ((refine call_e (rPaper_ok code var (prtsOf ((chosenF items ch).take k)) (by omega)) ?_); conv => whnf) | ((with_reducible refine slc_e ?_); conv => whnf) | ((with_reducible refine callS_a ?_); conv => whnf) | ((with_reducible refine bld_a ?_); conv => whnf) | ((with_reducible refine own_e ?_); conv => whnf) | ((with_reducible refine mkmap_b ?_); conv => whnf) | (refine draw_i 12 plGL11u_3 (by decide +kernel) ?_; (conv => whnf); fail_if_success (guard_target =~ False)) | (refine draw_i 12 plGL11u_4 (by decide +kernel) ?_; (conv => whnf); fail_if_success (guard_target =~ False)) | (refine draw_i 12 plGL11u_5 (by decide +kernel) ?_; (conv => whnf); fail_if_success (guard_target =~ False)) | ((with_reducible refine And.intro ?_ ?_) <;> (conv => whnf)) | (with_reducible exact trivial) | ((with_reducible refine branch_d (fun hq => ?_) (fun hq => ?_)) <;> (try (exfalso; omega)) <;> (conv => whnf)) | ((with_reducible refine branch_e (fun hq => ?_) (fun hq => ?_)) <;> (try (exfalso; omega)) <;> (conv => whnf)) | ((with_reducible refine branch_n (fun hq => ?_) (fun hq => ?_)) <;> (try (exfalso; omega)) <;> (conv => whnf)) | ((with_reducible refine branch_i (fun hq => ?_) (fun hq => ?_)) <;> (try (exfalso; omega)) <;> (conv => whnf))))
  all_goals first
    | exact pap_err (e := 1) (pap_e1 hch hxk (by assumption)) (by omega)
    | skip
  · refine ⟨k + 1, ⟨by omega, fun i y hiy hy => ?_⟩, by rw [prts_next hxk, List.map_append]; exact (le_mk (by repeat' (first | exact trivial | rfl | apply And.intro)) (by repeat' (first | exact trivial | rfl | apply And.intro)) rfl), by omega⟩
    by_cases e : i = k
    · subst e
      rw [hxk] at hy
      injection hy with hy
      subst hy
      omega
    · exact hall i y (by omega) hy
  all_goals
    have hkk : (chosenF items ch).take k = chosenF items ch := List.take_of_length_le (by omega)
    have hpe := pap_e (code := code) (var := var) hch fun i x hi => hall i x (by omega)
    rw [hkk] at hq
    first
      | exact pap_fin (by rw [hpe, if_neg (by rw [hq]; decide)]) (by rw [hkk])
      | exact pap_err (e := 1) (by rw [hpe, if_pos hq]) (by omega)
end Go.Proofs.Ytiionjpinainlaa
end

/- Layer 11: Restrict of the reference. -/
section
namespace Go.Proofs.Ytiionjpinainlaa
set_option linter.unusedVariables false
set_option linter.unusedSimpArgs false
set_option linter.unnecessarySimpa false
set_option linter.unusedSectionVars false
set_option maxRecDepth 10000
open Go.RowKit
end Go.Proofs.Ytiionjpinainlaa
end
