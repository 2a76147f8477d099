/- Layer 9: the generators Bent, Leaf, State. -/
import Derived.Test.YtbjbhokkdnhfeaaGL09f

namespace Go.Proofs.Ytbjbhokkdnhfeaa
set_option linter.unusedVariables false
set_option linter.unusedSimpArgs false
set_option linter.unnecessarySimpa false
set_option linter.unusedSectionVars false
set_option maxRecDepth 10000
open Go.RowKit
theorem map_modify {α : Type} {enc : α → List AV} {f : List AV → List AV} {g : α → α} (h : ∀ x, f (enc x) = enc (g x)) : ∀ (l : List α) (i : Nat), (l.map enc).modify i f = (l.modify i g).map enc
  | [], i => by simp
  | x :: l, 0 => by simp [List.modify_zero_cons, h]
  | x :: l, i + 1 => by simp only [List.map_cons, List.modify_succ_cons, map_modify h l i]
def setN (j : Nat) (x : Int) (n : Nd) : Nd := match j with
  | 0 => { n with kind := x }
  | 1 => { n with var := x }
  | 2 => { n with zero := x }
  | 3 => { n with one := x }
  | 4 => { n with row := x }
  | 5 => { n with num := x }
  | _ => { n with den := x }
theorem setN_enc {j : Nat} (hj : j < 7) (x : Int) (n : Nd) : (encN n).set j (.int .i64 x) = encN (setN j x n) := by
  match j, hj with
  | 0, _ => rfl
  | 1, _ => rfl
  | 2, _ => rfl
  | 3, _ => rfl
  | 4, _ => rfl
  | 5, _ => rfl
  | 6, _ => rfl
theorem nds_mod (l : List Nd) (i j : Nat) (hj : j < 7) (x : Int) : (l.map encN).modify i (fun c => c.set j (.int .i64 x)) = (l.modify i (setN j x)).map encN := map_modify (fun n => setN_enc hj x n) l i
theorem nds_ret {l' : List Nd} {t : Tg} {e : Nat} {es : List (List AV)} {R : List Nd → Prop} (h : es = l'.map encN) (hR : R l') : aret (.own t e 7 es) (fun r => ∃ l', r = ndsV l' ∧ R l') := by
  subst h
  exact ret_ol ⟨l', rfl, hR⟩
set_option maxHeartbeats 1000000 in
theorem bent_ok (l : List Nd) (n : Int) (hl : l.length ≤ 900000) (hn : -1000 ≤ n ∧ n ≤ 1000) : Good Try.prog TT true 8 [.tape, ndsV l, .int .i64 n] (fun r => ∃ l', r = ndsV l' ∧ l'.length ≤ l.length + 1 ∧ l.length ≤ l'.length) := by
  have L : (l.map encN).length = l.length := List.length_map ..
  refine good_of mixed tabOk Try.func8 rfl rfl Try.ntmps8 Try.results8 rfl rfl ?_
  (conv => whnf); (repeat' (first | (refine arith_i ⟨by omega, by omega⟩ ?_; conv => whnf) | (refine arith_u ⟨by omega, by omega⟩ ?_; conv => whnf) | (refine arith_8 ⟨by omega, by omega⟩ ?_; conv => whnf) | (refine need_i (by first | omega | (simp only [List.length_append, List.length_cons, List.length_nil, List.length_map, List.length_replicate, List.length_modify]; omega)) ?_; conv => whnf) | ((with_reducible refine branch_tt ?_); conv => whnf) | ((with_reducible refine branch_ff ?_); conv => whnf) | (with_reducible refine branch_not ?_) | ((refine call_i (one_ok _ (by omega)) fun r hr => ?_; obtain ⟨b1, rfl⟩ := hr); conv => whnf) | ((refine call_i (next_ok _ (by omega)) fun r hr => ?_; obtain ⟨m1, rfl, -, h5⟩ := hr; have hm1 := h5 (by omega)); conv => whnf) | ((refine idx_m (by omega) (by omega) fun y hy => ?_); conv => whnf) | ((refine call_i (range_ok _ _ (by omega) (by omega)) fun r hr => ?_; obtain ⟨x, rfl, -, hx⟩ := hr); conv => whnf) | ((refine call_i (pick_ok [0, 10000, 10001, -10000, -10001] (by decide) (by decide)) fun r hr => ?_; obtain ⟨x, rfl, hx⟩ := hr); conv => whnf) | ((refine call_i (pick_ok [0, 1, 10000, 10001, -1] (by decide) (by decide)) fun r hr => ?_; obtain ⟨x, rfl, hx⟩ := hr); conv => whnf) | ((with_reducible refine slc_e ?_); conv => whnf) | ((with_reducible refine callS_a ?_); conv => whnf) | ((with_reducible refine bld_a ?_); conv => whnf) | ((with_reducible refine own_e ?_); conv => whnf) | ((with_reducible refine branch_d (fun hq => ?_) (fun hq => ?_)) <;> (try (exfalso; omega)) <;> (conv => whnf)) | ((with_reducible refine branch_e (fun hq => ?_) (fun hq => ?_)) <;> (try (exfalso; omega)) <;> (conv => whnf)) | ((with_reducible refine branch_n (fun hq => ?_) (fun hq => ?_)) <;> (try (exfalso; omega)) <;> (conv => whnf)) | ((with_reducible refine branch_i (fun hq => ?_) (fun hq => ?_)) <;> (try (exfalso; omega)) <;> (conv => whnf))))
  all_goals first
    | exact ret_p rfl ⟨l, rfl, by omega, by omega⟩
    | exact nds_ret (nds_mod l _ _ (by decide) x) (by simp)
    | exact nds_ret (l' := l.modify _ (setN _ x) ++ [⟨3, 0, 0, 0, -1, 0, 1⟩]) (by rw [nds_mod l _ _ (by decide) x, List.map_append]; rfl) (by simp)
theorem nd_ret {a b c d e f g : Int} {R : Nd → Prop} (h : R ⟨a, b, c, d, e, f, g⟩) : aret (.agg [.int .i64 a, .int .i64 b, .int .i64 c, .int .i64 d, .int .i64 e, .int .i64 f, .int .i64 g]) (fun r => ∃ n, r = .agg (encN n) ∧ R n) :=
  ret_a (cs' := [_, _, _, _, _, _, _]) ⟨rc_p rfl, rc_p rfl, rc_p rfl, rc_p rfl, rc_p rfl, rc_p rfl, rc_p rfl, trivial⟩ ⟨⟨a, b, c, d, e, f, g⟩, rfl, h⟩
/-- What the tape makes a leaf: a dead row, or some bound. -/
def LeafG (P : Prog) (st : List Int) (n : Nd) : Prop := (n.kind = 2 ∧ n.row = deadF P st ∧ 0 ≤ deadF P st) ∨ n.kind = 3
set_option maxHeartbeats 1000000 in
theorem leafG_ok (P : Prog) (st : List Int) (hP : Fits P) (hs : st.length ≤ 1000000) (hr0 : P.rows.length ≤ 1000) : Good Try.prog TT true 27 [.tape, progV P, ints st] (fun r => ∃ n, r = .agg (encN n) ∧ LeafG P st n) := by
  have L : (P.costs.map encI).length = P.costs.length := List.length_map ..
  have LR : (P.rows.map encRow).length = P.rows.length := List.length_map ..
  refine good_of mixed tabOk Try.func27 rfl rfl Try.ntmps27 Try.results27 rfl rfl ?_
  (conv => whnf); (repeat' (first | (refine arith_i ⟨by omega, by omega⟩ ?_; conv => whnf) | (refine arith_u ⟨by omega, by omega⟩ ?_; conv => whnf) | (refine arith_8 ⟨by omega, by omega⟩ ?_; conv => whnf) | (refine need_i (by first | omega | (simp only [List.length_append, List.length_cons, List.length_nil, List.length_map, List.length_replicate, List.length_modify]; omega)) ?_; conv => whnf) | ((with_reducible refine branch_tt ?_); conv => whnf) | ((with_reducible refine branch_ff ?_); conv => whnf) | (with_reducible refine branch_not ?_) | ((refine call_i (next_ok _ (by omega)) fun r hr => ?_; obtain ⟨m1, rfl, -, h5⟩ := hr; have hm1 := h5 (by omega)); conv => whnf) | ((refine call_i (pick_ok [0, 1, 2, 3, 5, -1, -2, 7] (by decide) (by decide)) fun r hr => ?_; obtain ⟨x, rfl, hx⟩ := hr); conv => whnf) | ((refine call_i (pick_ok [1, 1, 2, 3] (by decide) (by decide)) fun r hr => ?_; obtain ⟨x, rfl, hx⟩ := hr); conv => whnf) | ((refine call_e (rDead_ok P st hP hs) ?_); conv => whnf) | ((with_reducible refine slc_e ?_); conv => whnf) | ((with_reducible refine callS_a ?_); conv => whnf) | ((with_reducible refine bld_a ?_); conv => whnf) | ((with_reducible refine own_e ?_); conv => whnf) | ((with_reducible refine branch_d (fun hq => ?_) (fun hq => ?_)) <;> (try (exfalso; omega)) <;> (conv => whnf)) | ((with_reducible refine branch_e (fun hq => ?_) (fun hq => ?_)) <;> (try (exfalso; omega)) <;> (conv => whnf)) | ((with_reducible refine branch_n (fun hq => ?_) (fun hq => ?_)) <;> (try (exfalso; omega)) <;> (conv => whnf)) | ((with_reducible refine branch_i (fun hq => ?_) (fun hq => ?_)) <;> (try (exfalso; omega)) <;> (conv => whnf))))
  all_goals first
    | exact nd_ret (.inr rfl)
    | exact nd_ret (.inl ⟨rfl, rfl, by assumption⟩)
theorem own_snoc {α : Type} {enc : α → List AV} {t : Tg} {e z : Nat} {xs : List α} (x : α) : AV.own t e z (xs.map enc ++ [enc x]) = .own t e z ((xs ++ [x]).map enc) := by simp
end Go.Proofs.Ytbjbhokkdnhfeaa
