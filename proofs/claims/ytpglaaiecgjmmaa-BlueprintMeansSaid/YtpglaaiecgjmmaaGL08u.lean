/- Layer 8: the law BlueprintRows. -/
import Derived.Test.YtpglaaiecgjmmaaGL08s
import Derived.Test.YtpglaaiecgjmmaaGL08i
import Derived.Test.YtpglaaiecgjmmaaGL06d

namespace Go.Proofs.Ytpglaaiecgjmmaa
set_option linter.unusedVariables false
set_option linter.unusedSimpArgs false
set_option linter.unnecessarySimpa false
set_option linter.unusedSectionVars false
set_option maxRecDepth 10000
open Go.RowKit
/-- Two readings of the same rows. -/
theorem rows_fin8 {l : List Itm} {b : Blu} (hl : l.length ≤ 1000) : (rowsO b l).length ≤ 1000 ∧ ∀ r ∈ rowsO b l, r.coefs.length ≤ 1000 := by
  have h := rowsO_fit (b := b) hl
  exact ⟨by omega, fun r hr => by have := h.2 r hr; omega⟩
theorem rows_at {b : Blu} {l : List Itm} {es : List (List AV)} (he : l.map encX = es) (h1 : Short b) (hi : l.length ≤ 1000) (hs : ∀ x ∈ l, ItmS x) (h5 : FrmG b.previous) : Good Try.prog TT false 33 [bluV b, .lst 5 es] (· = rowsR b l) := by
  subst he; exact rows_ok b l h1 hi hs fun f hf => by have := h5 f hf; omega
theorem rRows_at {b : Blu} {l : List Itm} {es : List (List AV)} (he : l.map encX = es) (h1 : Short b) (hi : l.length ≤ 1000) (hs : ∀ x ∈ l, ItmS x) (h5 : FrmG b.previous) : Good Try.prog TT false 34 [bluV b, .lst 5 es] (· = rowsR b l) := by
  subst he; exact rRows_ok b l h1 hi hs fun f hf => by have := h5 f hf; omega
theorem itmS_snoc {l : List Itm} {x : Itm} (h : ∀ y ∈ l, ItmS y ∧ itemF y = 0) (hx : ItmS x) : ∀ y ∈ l ++ [x], ItmS y := fun y hy => by
  rcases List.mem_append.1 hy with hy | hy
  · exact (h y hy).1
  · rw [List.mem_singleton.1 hy]; exact hx
theorem map_snoc {l : List Itm} {x : Itm} : (l ++ [x]).map encX = l.map encX ++ [encX x] := by simp
set_option maxHeartbeats 4000000 in
theorem rows_law (xs : List Int) (hx : xs.length ≤ 9223372036854775807) : Good Try.prog TT false 6 [ints xs] (· = .bool true) := by
  refine good_of mixed tabOk Try.func6 rfl rfl Try.ntmps6 Try.results6 rfl rfl ?_
  (conv => whnf); (repeat' (first | (refine arith_i ⟨by omega, by omega⟩ ?_; conv => whnf) | (refine arith_u ⟨by omega, by omega⟩ ?_; conv => whnf) | (refine arith_8 ⟨by omega, by omega⟩ ?_; conv => whnf) | (refine need_i (by first | omega | (simp only [List.length_append, List.length_cons, List.length_nil, List.length_map, List.length_replicate, List.length_modify]; omega)) ?_; conv => whnf) | ((with_reducible refine branch_tt ?_); conv => whnf) | ((with_reducible refine branch_ff ?_); conv => whnf) | (with_reducible refine branch_not ?_) | ((refine call_e (new_ok xs hx) ?_); conv => whnf) | (((refine call_i (blueprint_ok 6 (by omega)) fun r hr => ?_; obtain ⟨b, rfl, hb⟩ := hr)); conv => whnf) | (((refine call_i (items_ok 6 (by omega)) fun r hr => ?_; obtain ⟨l, rfl, hl, hg⟩ := hr; have LL : (l.map encX).length = l.length := List.length_map ..)); conv => whnf) | (((refine call_i (one_ok _ (by omega)) fun r hr => ?_; obtain ⟨b1, rfl⟩ := hr)); conv => whnf) | (((refine call_i (next_ok 7 (by omega)) fun r hr => ?_; obtain ⟨m3, rfl, -, h8⟩ := hr; have hm3 := h8 (by omega))); conv => whnf) | (((refine call_i (item_ok m3 1 2 (by omega) (by omega)) fun r hr => ?_; obtain ⟨x, rfl, hxg⟩ := hr)); conv => whnf) | (((refine call_e (rows_at (l := l) rfl hb.short (by omega) (fun x hx => (hg x hx).1) hb.frm) ?_; rw [rowsR_eq])); conv => whnf) | (((refine call_e (rows_at (l := l ++ [x]) map_snoc hb.short (by simp; omega) (itmS_snoc hg hxg.small) hb.frm) ?_; rw [rowsR_eq])); conv => whnf) | (((refine call_e (rRows_at (l := l) rfl hb.short (by omega) (fun x hx => (hg x hx).1) hb.frm) ?_; rw [rowsR_eq])); conv => whnf) | (((refine call_e (rRows_at (l := l ++ [x]) map_snoc hb.short (by simp; omega) (itmS_snoc hg hxg.small) hb.frm) ?_; rw [rowsR_eq])); conv => whnf) | (((have hO := rows_fin8 (b := b) (l := l) (by omega); refine call_e (sameRows_ok (rowsO b l) hO.1 hO.2) ?_)); conv => whnf) | (((have hO := rows_fin8 (b := b) (l := l ++ [x]) (by simp; omega); refine call_e (sameRows_ok (rowsO b (l ++ [x])) hO.1 hO.2) ?_)); conv => whnf) | ((refine call_e awake8_ok ?_); conv => whnf) | ((with_reducible refine slc_e ?_); conv => whnf) | ((with_reducible refine callS_a ?_); conv => whnf) | ((with_reducible refine own_e ?_); conv => whnf) | ((with_reducible refine branch_d (fun hq => ?_) (fun hq => ?_)) <;> (try (exfalso; omega)) <;> (conv => whnf)) | ((with_reducible refine branch_e (fun hq => ?_) (fun hq => ?_)) <;> (try (exfalso; omega)) <;> (conv => whnf)) | ((with_reducible refine branch_n (fun hq => ?_) (fun hq => ?_)) <;> (try (exfalso; omega)) <;> (conv => whnf)) | ((with_reducible refine branch_i (fun hq => ?_) (fun hq => ?_)) <;> (try (exfalso; omega)) <;> (conv => whnf))))
  all_goals first
    | exact ret_p rfl rfl
    | (exfalso; exact absurd rfl hq)
    | (exfalso; simp at hq; done)
    | trace_state
end Go.Proofs.Ytpglaaiecgjmmaa
