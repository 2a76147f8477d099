/- Layer 8 by the interpreter: contracts of the program's functions. -/
import Derived.Test.YtkmagoljpfpgmaaGTape2
import Derived.Test.YtkmagoljpfpgmaaPl08
namespace Go.Proofs.Ytkmagoljpfpgmaa
set_option linter.unusedVariables false
set_option linter.unusedSimpArgs false
set_option linter.unnecessarySimpa false
set_option linter.unusedSectionVars false
set_option maxRecDepth 10000

def encRow (r : Row) : List AV := [ints r.coefs, .int .i64 r.least, .int .i64 r.most]
def rowsV (rs : List Row) : AV := .lst 3 (rs.map encRow)
def progV (P : Prog) : AV := .agg [ints P.costs, rowsV P.rows]
theorem nth_eq {xs : List Int} {k : Nat} {x : Int} (h : xs[k]? = some x) : nth xs k = x := by simp [nth, List.getD_eq_getElem?_getD, h]
theorem rowAt_eq {rs : List Row} {k : Nat} {r : Row} (h : rs[k]? = some r) : rowAt rs k = r := by simp [rowAt, List.getD_eq_getElem?_getD, h]
theorem bool_eq {a b : Bool} (h : a = b) : (AV.bool a) = .bool b := by rw [h]
theorem int_eq {a b : Int} (h : a = b) : (AV.int .i64 a) = .int .i64 b := by rw [h]

end Go.Proofs.Ytkmagoljpfpgmaa
