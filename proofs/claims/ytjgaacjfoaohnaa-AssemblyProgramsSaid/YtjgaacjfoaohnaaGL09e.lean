/- Layer 9, the reference by the interpreter: row, Bound, leaf. -/
import Derived.Test.YtjgaacjfoaohnaaGL08r
import Derived.Test.YtjgaacjfoaohnaaGL09d

namespace Go.Proofs.Ytjgaacjfoaohnaa
set_option linter.unusedVariables false
set_option linter.unusedSimpArgs false
set_option linter.unnecessarySimpa false
set_option linter.unusedSectionVars false
set_option maxRecDepth 10000
open Go.RowKit

def rowOk9 (rows : Nat) (n : Nd) : Bool := decide ((n.row = -1 ∧ n.num = 0 ∧ n.den = 1) ∨ (n.row ≠ -1 ∧ 0 ≤ n.row ∧ n.row < rows ∧ -10000 ≤ n.num ∧ n.num ≤ 10000 ∧ 1 ≤ n.den ∧ n.den ≤ 10000))
theorem bnd_row (rows : Nat) (n : Nd) : bndB rows n = (decide (n.kind = 3) && rowOk9 rows n) := by
  rw [Bool.eq_iff_iff]
  unfold bndB rowOk9
  split <;> simp <;> omega
def row9 (P : Prog) (n : Nd) : Row := if n.row = -1 ∨ rowOk9 P.rows.length n = true then rowOf P n else ⟨[], 0, 0⟩
theorem row9_ret (P : Prog) (n : Nd) {c : AV} {l m : Int} {b : Bool} (hc : RetC c (ints (row9 P n).coefs)) (hl : l = (row9 P n).least) (hm : m = (row9 P n).most) (hb : b = rowOk9 P.rows.length n) : aret (.tup [.agg [c, .int .i64 l, .int .i64 m], .bool b]) (· = .tup [.agg (encRow (row9 P n)), .bool (rowOk9 P.rows.length n)]) := by
  subst hl hm hb
  exact ret_t (rs := [.agg (encRow (row9 P n)), .bool (rowOk9 P.rows.length n)]) ⟨.inr ⟨_, _, rfl, rfl, hc, rc_p rfl, rc_p rfl, trivial⟩, (rc_p rfl).g, trivial⟩ rfl
theorem repl_enc (n : Nat) : List.replicate n [AV.int .i64 0] = (List.replicate n (0 : Int)).map encI := by simp [encI]
theorem bound_ret {P : Prog} {st : List Int} {n : Nd} {x : Int} {b : Bool} (hb : b = okB P st n) (hx : x = if okB P st n = true then boundF P st n else 0) : aret (.tup [.int .i64 x, .bool b]) (· = boundV P st n) := by
  subst hb hx
  exact ret_t (rs := [_, _]) ⟨(rc_p rfl).g, (rc_p rfl).g, trivial⟩ rfl
end Go.Proofs.Ytjgaacjfoaohnaa
