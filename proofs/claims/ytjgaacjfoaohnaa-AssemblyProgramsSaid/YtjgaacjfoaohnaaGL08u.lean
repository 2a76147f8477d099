/- Layer 8: the law BlueprintRows. -/
import Derived.Test.YtjgaacjfoaohnaaGL08s
import Derived.Test.YtjgaacjfoaohnaaGL08i
import Derived.Test.YtjgaacjfoaohnaaGL06d

namespace Go.Proofs.Ytjgaacjfoaohnaa
set_option linter.unusedVariables false
set_option linter.unusedSimpArgs false
set_option linter.unnecessarySimpa false
set_option linter.unusedSectionVars false
set_option maxRecDepth 10000
open Go.RowKit
/-- Two readings of the same rows. -/
theorem rows_fin8 {l : List Itm} {b : Blu} (hl : l.length ≤ 1000) : (rowsO b l).length ≤ 1000 ∧ ∀ r ∈ rowsO b l, r.coefs.length ≤ 1000 := by
  have h := rowsO_fit (b := b) hl
  exact ⟨by omega, fun r hr => by have := h.2 r hr; omega⟩
theorem rows_at {b : Blu} {l : List Itm} {es : List (List AV)} (he : l.map encX = es) (h1 : Short b) (hi : l.length ≤ 1000) (hs : ∀ x ∈ l, ItmS x) (h5 : FrmG b.previous) : Good Try.prog TT false 22 [bluV b, .lst 5 es] (· = rowsR b l) := by
  subst he; exact rows_ok b l h1 hi hs fun f hf => by have := h5 f hf; omega
theorem rRows_at {b : Blu} {l : List Itm} {es : List (List AV)} (he : l.map encX = es) (h1 : Short b) (hi : l.length ≤ 1000) (hs : ∀ x ∈ l, ItmS x) (h5 : FrmG b.previous) : Good Try.prog TT false 24 [bluV b, .lst 5 es] (· = rowsR b l) := by
  subst he; exact rRows_ok b l h1 hi hs fun f hf => by have := h5 f hf; omega
theorem itmS_snoc {l : List Itm} {x : Itm} (h : ∀ y ∈ l, ItmS y ∧ itemF y = 0) (hx : ItmS x) : ∀ y ∈ l ++ [x], ItmS y := fun y hy => by
  rcases List.mem_append.1 hy with hy | hy
  · exact (h y hy).1
  · rw [List.mem_singleton.1 hy]; exact hx
theorem map_snoc {l : List Itm} {x : Itm} : (l ++ [x]).map encX = l.map encX ++ [encX x] := by simp
end Go.Proofs.Ytjgaacjfoaohnaa
