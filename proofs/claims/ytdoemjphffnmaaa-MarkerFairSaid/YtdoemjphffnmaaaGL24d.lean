/- Layer 24 by the interpreter: the example of the chapter. -/
import Derived.Test.YtdoemjphffnmaaaGL24c
import Derived.Test.YtdoemjphffnmaaaFw20
namespace Go.Proofs.Ytdoemjphffnmaaa
set_option linter.unusedVariables false
set_option linter.unusedSimpArgs false
set_option linter.unnecessarySimpa false
set_option linter.unusedSectionVars false
set_option maxRecDepth 10000
open Go.RowKit

def sL : List Mrk := [⟨3, 5, 1, 0, [0, 1]⟩, ⟨4, -1, 2, 0, [1]⟩]
def s1 : Scr := ⟨10007, 1, 7, 6, 0, [], []⟩
def s2 : Scr := ⟨10008, 1, 8, 5, 0, [], []⟩
theorem two {α : Type} {a b : α} {k : Nat} {x : α} (h : [a, b][k]? = some x) : (k = 0 ∧ x = a) ∨ (k = 1 ∧ x = b) := by
  match k, h with
  | 0, h => simp at h; exact .inl ⟨rfl, h.symm⟩
  | 1, h => simp at h; exact .inr ⟨rfl, h.symm⟩
  | k + 2, h => simp at h
theorem sL_good : ∀ (k : Nat) (m : Mrk), sL[k]? = some m → GoodM m := by
  intro k m h
  rcases two h with ⟨-, rfl⟩ | ⟨-, rfl⟩
  · exact ⟨by decide, by decide, by decide, by decide, fun k x hx => by rcases two hx with ⟨-, rfl⟩ | ⟨-, rfl⟩ <;> rfl, fun i h0 h1 => by
      have : i = 1 := by simp at h1; omega
      subst this; decide, by decide⟩
  · exact ⟨by decide, by decide, by decide, by decide, fun k x hx => by
      have hk := (List.getElem?_eq_some_iff.1 hx).1
      have : k = 0 := by simp at hk; exact hk
      subst this; simp at hx; subst hx; rfl, fun i h0 h1 => by simp at h1; omega, by decide⟩
theorem sL_asc : AscM sL := by
  intro i j a b hij ha hb
  rcases two ha with ⟨rfl, rfl⟩ | ⟨rfl, rfl⟩ <;> rcases two hb with ⟨rfl, rfl⟩ | ⟨rfl, rfl⟩ <;> first | omega | decide
theorem sL_short : ShortL sL := ⟨by decide, fun k m h => by rcases two h with ⟨-, rfl⟩ | ⟨-, rfl⟩ <;> (unfold ShortM; decide)⟩
theorem wk_scr {a b c d e : Int} : Wk (.agg [.int .i64 a, .int .i64 b, .int .i64 c, .int .i64 d, .int .i64 e, .nil, .nil]) (.agg (encR ⟨a, b, c, d, e, [], []⟩)) :=
  .inr ⟨_, _, rfl, rfl, .inl rfl, .inl rfl, .inl rfl, .inl rfl, .inl rfl, .inr ⟨rfl, 1, rfl⟩, .inr ⟨rfl, 1, rfl⟩, trivial⟩
theorem wk_same {v : AV} : Wk v v := .inl (.inl rfl)
theorem scr_good : ∀ (k : Nat) (s : Scr), [s1, s2][k]? = some s → GoodS s := by
  intro k s h
  rcases two h with ⟨-, rfl⟩ | ⟨-, rfl⟩ <;> exact ⟨by decide, by decide, by decide, by decide, by decide⟩
theorem sane_ok : Good Try.prog TT false 6 [] (· = .bool true) := by
  refine good_of mixed tabOk Try.func6 rfl rfl Try.ntmps6 Try.results6 rfl rfl ?_
  (conv => whnf); (repeat (first | (refine arith_i ⟨by omega, by omega⟩ ?_; conv => whnf) | (refine need_i (by first | omega | (simp only [List.length_append, List.length_cons, List.length_nil]; omega)) ?_; conv => whnf) | ((with_reducible refine branch_tt ?_); conv => whnf) | ((with_reducible refine branch_ff ?_); conv => whnf) | (with_reducible refine branch_not ?_)))
  refine call_e (check_ok sL (by decide) sL_good sL_asc) ?_
  (conv => whnf); (repeat (first | (refine arith_i ⟨by omega, by omega⟩ ?_; conv => whnf) | (refine need_i (by first | omega | (simp only [List.length_append, List.length_cons, List.length_nil]; omega)) ?_; conv => whnf) | ((with_reducible refine branch_tt ?_); conv => whnf) | ((with_reducible refine branch_ff ?_); conv => whnf) | (with_reducible refine branch_not ?_)))
  refine branch_t (by decide) ?_
  (conv => whnf); (repeat (first | (refine arith_i ⟨by omega, by omega⟩ ?_; conv => whnf) | (refine need_i (by first | omega | (simp only [List.length_append, List.length_cons, List.length_nil]; omega)) ?_; conv => whnf) | ((with_reducible refine branch_tt ?_); conv => whnf) | ((with_reducible refine branch_ff ?_); conv => whnf) | (with_reducible refine branch_not ?_)))
  refine nils_i [.int .i64 10007, .int .i64 1, .int .i64 7, .int .i64 6, .int .i64 0, .lst 1 [], .lst 1 [], .int .i64 10008, .int .i64 1, .int .i64 8, .int .i64 5, .int .i64 0, .lst 1 [], .lst 1 []] ⟨rfl, rfl, rfl, rfl, rfl, pc_nil 1, pc_nil 1, rfl, rfl, rfl, rfl, rfl, pc_nil 1, pc_nil 1, trivial⟩ ?_
  (conv => whnf); (repeat (first | (refine arith_i ⟨by omega, by omega⟩ ?_; conv => whnf) | (refine need_i (by first | omega | (simp only [List.length_append, List.length_cons, List.length_nil]; omega)) ?_; conv => whnf) | ((with_reducible refine branch_tt ?_); conv => whnf) | ((with_reducible refine branch_ff ?_); conv => whnf) | (with_reducible refine branch_not ?_)))
  refine call_e (checkScripts_ok [s1, s2] 2 (by decide) (by decide) scr_good (fun k s _ h => by rcases two h with ⟨-, rfl⟩ | ⟨-, rfl⟩ <;> decide) (fun s h => by simp at h) (fun k a b ha hb => by rcases two ha with ⟨rfl, rfl⟩ | ⟨rfl, rfl⟩ <;> rcases two hb with ⟨h, rfl⟩ | ⟨h, rfl⟩ <;> first | omega | decide)) ?_
  (conv => whnf); (repeat (first | (refine arith_i ⟨by omega, by omega⟩ ?_; conv => whnf) | (refine need_i (by first | omega | (simp only [List.length_append, List.length_cons, List.length_nil]; omega)) ?_; conv => whnf) | ((with_reducible refine branch_tt ?_); conv => whnf) | ((with_reducible refine branch_ff ?_); conv => whnf) | (with_reducible refine branch_not ?_)))
  refine branch_t (by decide) ?_
  (conv => whnf); (repeat (first | (refine arith_i ⟨by omega, by omega⟩ ?_; conv => whnf) | (refine need_i (by first | omega | (simp only [List.length_append, List.length_cons, List.length_nil]; omega)) ?_; conv => whnf) | ((with_reducible refine branch_tt ?_); conv => whnf) | ((with_reducible refine branch_ff ?_); conv => whnf) | (with_reducible refine branch_not ?_)))
  refine call_w (args' := [mrksV sL, .int .i64 3, .agg (encR s1)]) ⟨wk_same, wk_same, wk_scr, trivial⟩ (eligible_ok sL 3 s1 sL_short) fun r hr => ?_
  subst hr
  (conv => whnf); (repeat (first | (refine arith_i ⟨by omega, by omega⟩ ?_; conv => whnf) | (refine need_i (by first | omega | (simp only [List.length_append, List.length_cons, List.length_nil]; omega)) ?_; conv => whnf) | ((with_reducible refine branch_tt ?_); conv => whnf) | ((with_reducible refine branch_ff ?_); conv => whnf) | (with_reducible refine branch_not ?_)))
  refine branch_t (by decide) ?_
  (conv => whnf); (repeat (first | (refine arith_i ⟨by omega, by omega⟩ ?_; conv => whnf) | (refine need_i (by first | omega | (simp only [List.length_append, List.length_cons, List.length_nil]; omega)) ?_; conv => whnf) | ((with_reducible refine branch_tt ?_); conv => whnf) | ((with_reducible refine branch_ff ?_); conv => whnf) | (with_reducible refine branch_not ?_)))
  refine call_w (args' := [mrksV sL, .int .i64 3, .agg (encR s2)]) ⟨wk_same, wk_same, wk_scr, trivial⟩ (eligible_ok sL 3 s2 sL_short) fun r hr => ?_
  subst hr
  (conv => whnf); (repeat (first | (refine arith_i ⟨by omega, by omega⟩ ?_; conv => whnf) | (refine need_i (by first | omega | (simp only [List.length_append, List.length_cons, List.length_nil]; omega)) ?_; conv => whnf) | ((with_reducible refine branch_tt ?_); conv => whnf) | ((with_reducible refine branch_ff ?_); conv => whnf) | (with_reducible refine branch_not ?_)))
  refine branch_f (by decide) ?_
  (conv => whnf); (repeat (first | (refine arith_i ⟨by omega, by omega⟩ ?_; conv => whnf) | (refine need_i (by first | omega | (simp only [List.length_append, List.length_cons, List.length_nil]; omega)) ?_; conv => whnf) | ((with_reducible refine branch_tt ?_); conv => whnf) | ((with_reducible refine branch_ff ?_); conv => whnf) | (with_reducible refine branch_not ?_)))
  refine call_w (args' := [mrksV sL, .agg (encR s2)]) ⟨wk_same, wk_scr, trivial⟩ (able2_ok sL s2 sL_short sL_asc) fun r hr => ?_
  rw [show ableF sL s2 (-9223372036854775808) = [4] by decide] at hr
  subst hr
  (conv => whnf); (repeat (first | (refine arith_i ⟨by omega, by omega⟩ ?_; conv => whnf) | (refine need_i (by first | omega | (simp only [List.length_append, List.length_cons, List.length_nil]; omega)) ?_; conv => whnf) | ((with_reducible refine branch_tt ?_); conv => whnf) | ((with_reducible refine branch_ff ?_); conv => whnf) | (with_reducible refine branch_not ?_)))
  refine call_e (same_ok [4] [4] (by decide) (by decide)) ?_
  (conv => whnf); (repeat (first | (refine arith_i ⟨by omega, by omega⟩ ?_; conv => whnf) | (refine need_i (by first | omega | (simp only [List.length_append, List.length_cons, List.length_nil]; omega)) ?_; conv => whnf) | ((with_reducible refine branch_tt ?_); conv => whnf) | ((with_reducible refine branch_ff ?_); conv => whnf) | (with_reducible refine branch_not ?_)))
  refine branch_t (by decide) ?_
  (conv => whnf); (repeat (first | (refine arith_i ⟨by omega, by omega⟩ ?_; conv => whnf) | (refine need_i (by first | omega | (simp only [List.length_append, List.length_cons, List.length_nil]; omega)) ?_; conv => whnf) | ((with_reducible refine branch_tt ?_); conv => whnf) | ((with_reducible refine branch_ff ?_); conv => whnf) | (with_reducible refine branch_not ?_)))
  refine call_w (args' := [mrksV sL, .agg (encR s1)]) ⟨wk_same, wk_scr, trivial⟩ (seniors_ok sL s1 sL_short sL_asc) fun r hr => ?_
  rw [show ableF sL s1 2 = [4] by decide] at hr
  subst hr
  (conv => whnf); (repeat (first | (refine arith_i ⟨by omega, by omega⟩ ?_; conv => whnf) | (refine need_i (by first | omega | (simp only [List.length_append, List.length_cons, List.length_nil]; omega)) ?_; conv => whnf) | ((with_reducible refine branch_tt ?_); conv => whnf) | ((with_reducible refine branch_ff ?_); conv => whnf) | (with_reducible refine branch_not ?_)))
  refine call_e (same_ok [4] [4] (by decide) (by decide)) ?_
  (conv => whnf); (repeat (first | (refine arith_i ⟨by omega, by omega⟩ ?_; conv => whnf) | (refine need_i (by first | omega | (simp only [List.length_append, List.length_cons, List.length_nil]; omega)) ?_; conv => whnf) | ((with_reducible refine branch_tt ?_); conv => whnf) | ((with_reducible refine branch_ff ?_); conv => whnf) | (with_reducible refine branch_not ?_)))
  exact ret_p rfl rfl
end Go.Proofs.Ytdoemjphffnmaaa
