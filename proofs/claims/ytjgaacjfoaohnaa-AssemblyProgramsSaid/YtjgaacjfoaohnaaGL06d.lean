/- Layer 6: the generator of lists of items. -/
import Derived.Test.YtjgaacjfoaohnaaGL06c
namespace Go.Proofs.Ytjgaacjfoaohnaa
set_option linter.unusedVariables false
set_option linter.unusedSimpArgs false
set_option linter.unnecessarySimpa false
set_option linter.unusedSectionVars false
set_option maxRecDepth 10000
open Go.RowKit
theorem snocX {t e : Nat} {l : List Itm} {x : Itm} : AV.own t e 5 (l.map encX ++ [encX x]) = AV.own t e 5 ((l ++ [x]).map encX) := by simp
set_option maxHeartbeats 4000000 in
theorem items_ok (n : Int) (hn : 0 ≤ n ∧ n ≤ 100) : Good Try.prog TT true 6 [.tape, .int .i64 n] (fun r => ∃ l : List Itm, r = .own 0 35 5 (l.map encX) ∧ (l.length : Int) ≤ n ∧ ∀ x ∈ l, ItmS x ∧ itemF x = 0) := by
  refine good_of mixed tabOk Try.func6 rfl rfl Try.ntmps6 Try.results6 rfl rfl ?_
  (conv => whnf); (repeat' (first | (refine arith_i ⟨by omega, by omega⟩ ?_; conv => whnf) | (refine arith_u ⟨by omega, by omega⟩ ?_; conv => whnf) | (refine arith_8 ⟨by omega, by omega⟩ ?_; conv => whnf) | (refine need_i (by first | omega | (simp only [List.length_append, List.length_cons, List.length_nil, List.length_map, List.length_replicate, List.length_modify]; omega)) ?_; conv => whnf) | ((with_reducible refine branch_tt ?_); conv => whnf) | ((with_reducible refine branch_ff ?_); conv => whnf) | (with_reducible refine branch_not ?_) | (((refine call_i (range_ok _ _ (by omega) (by omega)) fun r hr => ?_; obtain ⟨m1, rfl, -, h6⟩ := hr; have hm1 := h6 (by omega))); conv => whnf) | ((with_reducible refine slc_e ?_); conv => whnf) | ((with_reducible refine callS_a ?_); conv => whnf) | ((with_reducible refine own_e ?_); conv => whnf) | ((with_reducible refine branch_d (fun hq => ?_) (fun hq => ?_)) <;> (try (exfalso; omega)) <;> (conv => whnf)) | ((with_reducible refine branch_e (fun hq => ?_) (fun hq => ?_)) <;> (try (exfalso; omega)) <;> (conv => whnf)) | ((with_reducible refine branch_n (fun hq => ?_) (fun hq => ?_)) <;> (try (exfalso; omega)) <;> (conv => whnf)) | ((with_reducible refine branch_i (fun hq => ?_) (fun hq => ?_)) <;> (try (exfalso; omega)) <;> (conv => whnf))))
  refine loop_i2 (fun (k : Nat) (l : List Itm) => (k : Int) ≤ m1 ∧ (l.length : Int) = m1 - k ∧ ∀ x ∈ l, ItmS x ∧ itemF x = 0) (fun k l => mkSt [(0, .tape), (5, .own 900 35 5 (l.map encX)), (6, .int .i64 k)] [] true) (fun k _ => k) m1.toNat [] ⟨by omega, by simp; omega, by simp⟩ (by rw [show ((m1.toNat : Nat) : Int) = m1 by omega]; exact Le.trans (le_adopt 5 900 35 5 rfl) (le_mk (by repeat' (first | exact trivial | rfl | apply And.intro)) (by repeat' (first | exact trivial | rfl | apply And.intro)) rfl)) ?_
  rintro k l ⟨hk, hl, hx⟩
  have LL : (l.map encX).length = l.length := List.length_map ..
  (conv => whnf); (repeat' (first | (refine arith_i ⟨by omega, by omega⟩ ?_; conv => whnf) | (refine arith_u ⟨by omega, by omega⟩ ?_; conv => whnf) | (refine arith_8 ⟨by omega, by omega⟩ ?_; conv => whnf) | (refine need_i (by first | omega | (simp only [List.length_append, List.length_cons, List.length_nil, List.length_map, List.length_replicate, List.length_modify]; omega)) ?_; conv => whnf) | ((with_reducible refine branch_tt ?_); conv => whnf) | ((with_reducible refine branch_ff ?_); conv => whnf) | (with_reducible refine branch_not ?_) | (((refine call_i (range_ok _ _ (by omega) (by omega)) fun r hr => ?_; obtain ⟨m2, rfl, -, h7⟩ := hr; have hm2 := h7 (by omega))); conv => whnf) | (((refine call_i (next_ok _ (by omega)) fun r hr => ?_; obtain ⟨m3, rfl, -, h8⟩ := hr; have hm3 := h8 (by omega))); conv => whnf) | (((refine call_i (one_ok _ (by omega)) fun r hr => ?_; obtain ⟨b1, rfl⟩ := hr)); conv => whnf) | (((refine call_i (item_ok _ _ 0 (by omega) (by omega)) fun r hr => ?_; obtain ⟨x, rfl, hxg⟩ := hr; have hx0 := hxg.ok rfl (by omega) (by omega))); conv => whnf) | ((with_reducible refine slc_e ?_); conv => whnf) | ((with_reducible refine callS_a ?_); conv => whnf) | ((with_reducible refine own_e ?_); conv => whnf) | ((with_reducible refine branch_d (fun hq => ?_) (fun hq => ?_)) <;> (try (exfalso; omega)) <;> (conv => whnf)) | ((with_reducible refine branch_e (fun hq => ?_) (fun hq => ?_)) <;> (try (exfalso; omega)) <;> (conv => whnf)) | ((with_reducible refine branch_n (fun hq => ?_) (fun hq => ?_)) <;> (try (exfalso; omega)) <;> (conv => whnf)) | ((with_reducible refine branch_i (fun hq => ?_) (fun hq => ?_)) <;> (try (exfalso; omega)) <;> (conv => whnf))))
  all_goals first
    | (refine ⟨k - 1, l ++ [x], ⟨by omega, by simp; omega, fun y hy => ?_⟩, ?_, by omega⟩
       · rcases List.mem_append.1 hy with hy | hy
         · exact hx y hy
         · rw [List.mem_singleton.1 hy]; exact ⟨hxg.small, hx0.1⟩
       · rw [show ((k - 1 : Nat) : Int) = (k : Int) - 1 by omega, List.map_append]
         exact (le_mk (by repeat' (first | exact trivial | rfl | apply And.intro)) (by repeat' (first | exact trivial | rfl | apply And.intro)) rfl))
    | exact ret_o ⟨l, rfl, by omega, hx⟩
    | trace_state
end Go.Proofs.Ytjgaacjfoaohnaa
