/- From the row's reading of a slice of integers to 'Ints'. -/
import Derived.Test.YthgnomniboindaaMA
namespace Go.Proofs.Ythgnomniboindaa
set_option linter.unusedVariables false
open Go.RowKit

theorem spot_of_cell {w : World} {a : Addr} {v : Value} (h : w.cell? a = some v) : a.spot = none := by
  unfold World.cell? at h
  split at h
  · split at h
    · cases h
    · next hs => simpa using hs
  · cases h
theorem ofRow {w : World} {a : Option Addr} {len cap : Nat} {zs : List Int}
    (h : (a = none ∧ len = 0 ∧ cap = 0 ∧ zs = []) ∨ ∃ x, a = some x ∧ len ≤ cap ∧ cap ≤ maxLen ∧ zs.length = cap ∧ (∀ i, i < zs.length → w.cell? (x.add i) = some (.int .i64 (zs.getD i 0))) ∧ ∀ n ∈ zs, (Lit.int .i64 n).wf = true) :
    Ints w No a len cap (zs.take len) ∧ cap ≤ maxLen := by
  rcases h with ⟨rfl, rfl, rfl, rfl⟩ | ⟨x, rfl, hl, hm, hz, hc, -⟩
  · exact ⟨Slc.nil _, Nat.zero_le _⟩
  · refine ⟨⟨by rw [List.length_take]; omega, hl, fun hn => ?_⟩, hm⟩
    have h0 := hc 0 (by omega)
    have hx : (x.add 0) = x := by simp [Addr.add]
    rw [hx] at h0
    have hs := spot_of_cell h0
    obtain ⟨b, off, sp⟩ := x
    simp only at hs
    subst hs
    have hb := World.block_lt_of_cell? w _ h0
    refine ⟨b, off, rfl, hb, no_, fun i y hy => ⟨[.int .i64 y], fun j u hu => ?_, rfl⟩⟩
    rcases j with _ | j
    · have hi : i < len ∧ zs[i]? = some y := by
        rw [List.getElem?_take] at hy
        split at hy
        · next h => exact ⟨h, hy⟩
        · cases hy
      have := hc i (by omega)
      have ha : (⟨b, off, none⟩ : Addr).add i = ⟨b, off + i, none⟩ := by
        unfold Addr.add
        split
        · next h => subst h; rfl
        · rfl
      rw [ha] at this
      simp only [List.getElem?_cons_zero, Option.some.injEq] at hu
      subst hu
      simpa [Rep.int, List.getD_eq_getElem?_getD, hi.2] using this
    · simp at hu
end Go.Proofs.Ythgnomniboindaa
