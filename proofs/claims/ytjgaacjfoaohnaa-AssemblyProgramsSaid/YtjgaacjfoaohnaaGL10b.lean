/- Layer 10: what is done with each choice: All keeps it, Solve keeps the cheapest. -/
import Derived.Test.YtjgaacjfoaohnaaGL10a
import Derived.Test.YtjgaacjfoaohnaaGL09j
namespace Go.Proofs.Ytjgaacjfoaohnaa
set_option linter.unusedVariables false
set_option linter.unusedSimpArgs false
set_option linter.unnecessarySimpa false
set_option linter.unusedSectionVars false
set_option maxRecDepth 10000
open Go.RowKit
theorem scal_ints (xs : List Int) : scalE (xs.map encI) := fun c hc v hv => by
  obtain ⟨x, _, rfl⟩ := List.mem_map.1 hc
  rw [List.mem_singleton.1 hv]; rfl
/-- The plan so far. -/
def plC (σ : Bool × Int × List Int) : List AV := [.bool σ.1, ints σ.2.2, .int .i64 σ.2.1, .nil]
set_option maxHeartbeats 2000000 in
theorem visSolve_ok (P : Prog) (ch : List Int) (σ : Bool × Int × List Int) (hc : ch.length ≤ 1000) : GoodM Try.prog TT false 54 [.own 1105 3 1 (ch.map encI), .int .i64 (sumOf P.costs ch), .ptr 1010 0] [(1010, plC σ)]
    (fun r ov bx => r = .tup [] ∧ ov = [(1000, .own 1105 3 1 (ch.map encI))] ∧ bx = [(1010, plC (bestS P σ ch))]) := by
  refine good_of_m (fun _ => false) mixed tabOk Try.func54 rfl rfl Try.ntmps54 Try.results54 rfl rfl ?_
  (conv => whnf); (repeat' (first | (refine arith_i ⟨by omega, by omega⟩ ?_; conv => whnf) | (refine arith_u ⟨by omega, by omega⟩ ?_; conv => whnf) | (refine arith_8 ⟨by omega, by omega⟩ ?_; conv => whnf) | (refine need_i (by first | omega | (simp only [List.length_append, List.length_cons, List.length_nil, List.length_map, List.length_replicate, List.length_modify]; omega)) ?_; conv => whnf) | ((with_reducible refine branch_tt ?_); conv => whnf) | ((with_reducible refine branch_ff ?_); conv => whnf) | (with_reducible refine branch_not ?_) | ((refine call_e (clone_ok ch (by omega)) ?_); conv => whnf) | ((refine own_k (scal_ints ch) ?_); conv => whnf) | ((with_reducible refine slc_e ?_); conv => whnf) | ((with_reducible refine callS_a ?_); conv => whnf) | ((with_reducible refine own_e ?_); conv => whnf) | ((with_reducible refine branch_d (fun hq => ?_) (fun hq => ?_)) <;> (try (exfalso; omega)) <;> (conv => whnf)) | ((with_reducible refine branch_e (fun hq => ?_) (fun hq => ?_)) <;> (try (exfalso; omega)) <;> (conv => whnf)) | ((with_reducible refine branch_n (fun hq => ?_) (fun hq => ?_)) <;> (try (exfalso; omega)) <;> (conv => whnf)) | ((with_reducible refine branch_i (fun hq => ?_) (fun hq => ?_)) <;> (try (exfalso; omega)) <;> (conv => whnf))))
  all_goals first
    | (have e : bestS P σ ch = (true, sumOf P.costs ch, ch) := by rw [bestS, if_pos (by first | (left; assumption) | (right; assumption))]
       rw [e]
       exact retM_i (.tup []) [(1000, .own 1105 3 1 (ch.map encI))] [(1010, [.bool true, ints ch, .int .i64 (sumOf P.costs ch), .nil])] rfl (Le.trans (le_erase 16) (le_mk ⟨rfl, rfl, trivial⟩ ⟨rfl, trivial⟩ rfl)) rfl ⟨rfl, rfl, rfl⟩)
    | (have e : bestS P σ ch = σ := by
         rw [bestS, if_neg]
         rintro (h | h)
         · simp_all
         · omega
       rw [e]
       exact retM_i (.tup []) [(1000, .own 1105 3 1 (ch.map encI))] [(1010, plC σ)] rfl (le_mk ⟨rfl, rfl, trivial⟩ ⟨rfl, trivial⟩ rfl) rfl ⟨rfl, rfl, rfl⟩)
end Go.Proofs.Ytjgaacjfoaohnaa
