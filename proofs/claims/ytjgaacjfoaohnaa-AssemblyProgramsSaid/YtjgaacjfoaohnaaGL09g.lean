/- Layer 9: the generators Bent, Leaf, State. -/
import Derived.Test.YtjgaacjfoaohnaaGL09f

namespace Go.Proofs.Ytjgaacjfoaohnaa
set_option linter.unusedVariables false
set_option linter.unusedSimpArgs false
set_option linter.unnecessarySimpa false
set_option linter.unusedSectionVars false
set_option maxRecDepth 10000
open Go.RowKit
theorem map_modify {α : Type} {enc : α → List AV} {f : List AV → List AV} {g : α → α} (h : ∀ x, f (enc x) = enc (g x)) : ∀ (l : List α) (i : Nat), (l.map enc).modify i f = (l.modify i g).map enc
  | [], i => by simp
  | x :: l, 0 => by simp [List.modify_zero_cons, h]
  | x :: l, i + 1 => by simp only [List.map_cons, List.modify_succ_cons, map_modify h l i]
def setN (j : Nat) (x : Int) (n : Nd) : Nd := match j with
  | 0 => { n with kind := x }
  | 1 => { n with var := x }
  | 2 => { n with zero := x }
  | 3 => { n with one := x }
  | 4 => { n with row := x }
  | 5 => { n with num := x }
  | _ => { n with den := x }
theorem setN_enc {j : Nat} (hj : j < 7) (x : Int) (n : Nd) : (encN n).set j (.int .i64 x) = encN (setN j x n) := by
  match j, hj with
  | 0, _ => rfl
  | 1, _ => rfl
  | 2, _ => rfl
  | 3, _ => rfl
  | 4, _ => rfl
  | 5, _ => rfl
  | 6, _ => rfl
theorem nds_mod (l : List Nd) (i j : Nat) (hj : j < 7) (x : Int) : (l.map encN).modify i (fun c => c.set j (.int .i64 x)) = (l.modify i (setN j x)).map encN := map_modify (fun n => setN_enc hj x n) l i
theorem nds_ret {l' : List Nd} {t e : Nat} {es : List (List AV)} {R : List Nd → Prop} (h : es = l'.map encN) (hR : R l') : aret (.own t e 7 es) (fun r => ∃ l', r = ndsV l' ∧ R l') := by
  subst h
  exact ret_ol ⟨l', rfl, hR⟩
theorem nd_ret {a b c d e f g : Int} {R : Nd → Prop} (h : R ⟨a, b, c, d, e, f, g⟩) : aret (.agg [.int .i64 a, .int .i64 b, .int .i64 c, .int .i64 d, .int .i64 e, .int .i64 f, .int .i64 g]) (fun r => ∃ n, r = .agg (encN n) ∧ R n) :=
  ret_a (cs' := [_, _, _, _, _, _, _]) ⟨rc_p rfl, rc_p rfl, rc_p rfl, rc_p rfl, rc_p rfl, rc_p rfl, rc_p rfl, trivial⟩ ⟨⟨a, b, c, d, e, f, g⟩, rfl, h⟩
/-- What the tape makes a leaf: a dead row, or some bound. -/
def LeafG (P : Prog) (st : List Int) (n : Nd) : Prop := (n.kind = 2 ∧ n.row = deadF P st ∧ 0 ≤ deadF P st) ∨ n.kind = 3
theorem own_snoc {α : Type} {enc : α → List AV} {t e z : Nat} {xs : List α} (x : α) : AV.own t e z (xs.map enc ++ [enc x]) = .own t e z ((xs ++ [x]).map enc) := by simp
end Go.Proofs.Ytjgaacjfoaohnaa
