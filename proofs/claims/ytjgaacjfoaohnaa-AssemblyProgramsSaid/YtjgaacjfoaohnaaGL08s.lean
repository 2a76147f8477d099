/- Layer 8: comparing rows; the example of the chapter; the law BlueprintMany. -/
import Derived.Test.YtjgaacjfoaohnaaGL08q
import Derived.Test.YtjgaacjfoaohnaaGL08b2
namespace Go.Proofs.Ytjgaacjfoaohnaa
set_option linter.unusedVariables false
set_option linter.unusedSimpArgs false
set_option linter.unnecessarySimpa false
set_option linter.unusedSectionVars false
set_option maxRecDepth 10000
open Go.RowKit
def awakeP8 : Prog := ⟨[1, 1, 1], [⟨[1, 1, 1], 1, 2⟩, ⟨[4, 5, 6], 9, 10⟩, ⟨[0, 1, 1], 0, 1⟩]⟩
theorem awakeP8_fits : Fits awakeP8 := ⟨by decide, by decide, by decide⟩
/-- The rows that Rows returns. -/
def rowsO (b : Blu) (l : List Itm) : List Row := if rowsE b l = 0 then rowsL b l else []
theorem rowsR_eq (b : Blu) (l : List Itm) : rowsR b l = .tup [rowsV (rowsO b l), .int .i64 (rowsE b l)] := rfl
theorem pairJ_mem {l : List Itm} {i : Nat} {r : Row} : ∀ {m j : Nat}, r ∈ pairJ l i m j → ∃ i j, r = pairRow l.length i j
  | 0, j, h => by simp [pairJ] at h
  | m + 1, j, h => by
    rw [pairJ, List.mem_append] at h
    rcases h with h | h
    · cases hc : clashB (itmAt l i) (itmAt l j) <;> simp [hc] at h
      exact ⟨i, j, h⟩
    · exact pairJ_mem h
theorem pairI_mem {l : List Itm} {r : Row} : ∀ {m i : Nat}, r ∈ pairI l m i → ∃ i j, r = pairRow l.length i j
  | 0, i, h => by simp [pairI] at h
  | m + 1, i, h => by
    rw [pairI, List.mem_append] at h
    rcases h with h | h
    · exact pairJ_mem h
    · exact pairI_mem h
theorem rowsL_coefs {b : Blu} {l : List Itm} : ∀ r ∈ rowsL b l, r.coefs.length = l.length := by
  intro r hr
  simp only [rowsL, List.mem_append, List.mem_map, List.mem_cons, List.not_mem_nil, or_false] at hr
  rcases hr with ((((h | ⟨x, -, h⟩) | ⟨x, -, h⟩) | ⟨x, -, h⟩) | h) | ⟨x, -, h⟩
  · rcases h with h | h <;> (subst h; simp [row1, row2])
  · subst h; simp [rowT]
  · subst h; simp [rowT]
  · subst h; simp [rowR]
  · obtain ⟨i, j, rfl⟩ := pairI_mem h; simp [pairRow]
  · subst h; simp [rowP]
theorem rowsO_fit {b : Blu} {l : List Itm} (hl : l.length ≤ 1000) : (rowsO b l).length ≤ 60 ∧ ∀ r ∈ rowsO b l, r.coefs.length = l.length := by
  unfold rowsO
  split
  · next h =>
    refine ⟨?_, rowsL_coefs⟩
    unfold rowsE at h
    split at h
    · omega
    split at h
    · cases h
    split at h
    · cases h
    split at h
    · cases h
    · omega
  · exact ⟨Nat.zero_le _, by simp⟩
end Go.Proofs.Ytjgaacjfoaohnaa
