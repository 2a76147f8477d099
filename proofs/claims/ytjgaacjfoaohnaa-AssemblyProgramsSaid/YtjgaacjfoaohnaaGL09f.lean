/- Layer 9: the generator of programs, also with a mistake. -/
import Derived.Test.YtjgaacjfoaohnaaGL09e

namespace Go.Proofs.Ytjgaacjfoaohnaa
set_option linter.unusedVariables false
set_option linter.unusedSimpArgs false
set_option linter.unnecessarySimpa false
set_option linter.unusedSectionVars false
set_option maxRecDepth 10000
open Go.RowKit
def costL : List Int := [0, 1, 2, 3, 5, 7, 10000]
def coefL : List Int := [0, 1, 1, 2, 3, -1, -2, 4]
def RowG (n : Nat) (r : Row) : Prop := r.coefs.length = n ∧ (∀ x ∈ r.coefs, x ∈ coefL) ∧ (-2 ≤ r.least ∧ r.least ≤ 4) ∧ (2 ≤ r.most ∧ r.most ≤ 9)
structure ProgG (m : Int) (P : Prog) : Prop where
  len : (P.costs.length : Int) ≤ m
  cost : ∀ x ∈ P.costs, x ∈ costL
  rows : P.rows.length ≤ 3
  row : ∀ r ∈ P.rows, RowG P.costs.length r
/-- Any program that the tape makes: small. -/
def Small (P : Prog) : Prop := P.costs.length ≤ 100 ∧ P.rows.length ≤ 10 ∧ ∀ r ∈ P.rows, r.coefs.length ≤ 100
theorem box_snoc {α : Type} {enc : α → List AV} {t e z : Nat} {xs : List α} (pre post : List AV) (x : α) : some (pre ++ AV.own t e z (xs.map enc ++ [enc x]) :: post) = some (pre ++ AV.own t e z ((xs ++ [x]).map enc) :: post) := by simp
theorem snoc_in {α : Type} {p : α → Prop} {xs : List α} {x : α} (h : ∀ y ∈ xs, p y) (hx : p x) : ∀ y ∈ xs ++ [x], p y := fun y hy => by
  rcases List.mem_append.1 hy with h' | h'
  · exact h y h'
  · obtain rfl := List.mem_singleton.1 h'
    exact hx
theorem prog_ret {t1 e1 t2 e2 : Nat} {es1 es2 : List (List AV)} {R : Prog → Prop} (P : Prog) (h1 : es1 = P.costs.map encI) (h2 : es2 = P.rows.map encRow) (hR : R P) : aret (.agg [.own t1 e1 1 es1, .own t2 e2 3 es2]) (fun r => ∃ P, r = progV P ∧ R P) := by
  subst h1 h2
  exact ret_a (cs' := [ints P.costs, rowsV P.rows]) ⟨rc_o, rc_o, trivial⟩ ⟨P, rfl, hR⟩
end Go.Proofs.Ytjgaacjfoaohnaa
