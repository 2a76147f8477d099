/- Layer 8: the law BlueprintMany. -/
import Derived.Test.YtpglaaiecgjmmaaGL08s
namespace Go.Proofs.Ytpglaaiecgjmmaa
set_option linter.unusedVariables false
set_option linter.unusedSimpArgs false
set_option linter.unnecessarySimpa false
set_option linter.unusedSectionVars false
set_option maxRecDepth 10000
open Go.RowKit
theorem snocI8 {xs : List Int} {x : Int} : xs.map encI ++ [[AV.int .i64 x]] = (xs ++ [x]).map encI := by simp [encI]
def manyB : Blu := ⟨0, 12, 0, 100, [], [], [], [], 0⟩
theorem many_wk {l : List Itm} : All2 Wk [.agg [.int .i64 0, .int .i64 12, .int .i64 0, .int .i64 100, .nil, .nil, .nil, .nil, .int .i64 0], itmsV l] [bluV manyB, itmsV l] :=
  ⟨.inr ⟨_, _, rfl, rfl, .inl rfl, .inl rfl, .inl rfl, .inl rfl, .inr ⟨rfl, 3, rfl⟩, .inr ⟨rfl, 3, rfl⟩, .inr ⟨rfl, 1, rfl⟩, .inr ⟨rfl, 2, rfl⟩, .inl rfl, trivial⟩, .inl (.inl rfl), trivial⟩
theorem manyB_short : Short manyB := ⟨by decide, by decide, by decide, by decide⟩
set_option maxHeartbeats 4000000 in
theorem many8_law (n ids en : Int) : Good Try.prog TT false 7 [.int .i64 n, .int .i64 ids, .int .i64 en] (· = .bool true) := by
  refine good_of mixed tabOk Try.func7 rfl rfl Try.ntmps7 Try.results7 rfl rfl ?_
  (conv => whnf); (repeat' (first | (refine arith_i ⟨by omega, by omega⟩ ?_; conv => whnf) | (refine arith_u ⟨by omega, by omega⟩ ?_; conv => whnf) | (refine arith_8 ⟨by omega, by omega⟩ ?_; conv => whnf) | (refine need_i (by first | omega | (simp only [List.length_append, List.length_cons, List.length_nil, List.length_map, List.length_replicate, List.length_modify]; omega)) ?_; conv => whnf) | ((with_reducible refine branch_tt ?_); conv => whnf) | ((with_reducible refine branch_ff ?_); conv => whnf) | (with_reducible refine branch_not ?_) | ((with_reducible refine slc_e ?_); conv => whnf) | ((with_reducible refine callS_a ?_); conv => whnf) | ((with_reducible refine own_e ?_); conv => whnf) | ((with_reducible refine branch_d (fun hq => ?_) (fun hq => ?_)) <;> (try (exfalso; omega)) <;> (conv => whnf)) | ((with_reducible refine branch_e (fun hq => ?_) (fun hq => ?_)) <;> (try (exfalso; omega)) <;> (conv => whnf)) | ((with_reducible refine branch_n (fun hq => ?_) (fun hq => ?_)) <;> (try (exfalso; omega)) <;> (conv => whnf)) | ((with_reducible refine branch_i (fun hq => ?_) (fun hq => ?_)) <;> (try (exfalso; omega)) <;> (conv => whnf))))
  refine loop_i2 (fun (i : Nat) (l : List Itm) => l.length = i ∧ (∀ x ∈ l, ItmS x) ∧ i ≤ 13) (fun i l => mkSt [(0, .int .i64 n), (1, .int .i64 ids), (2, .int .i64 en), (7, .own 900 60 5 (l.map encX)), (8, .int .i64 i)] [] false) (fun i _ => 13 - i) 0 [] ⟨rfl, by simp, by omega⟩ (Le.trans (le_adopt 7 900 60 5 rfl) (le_mk (by repeat' (first | exact trivial | rfl | apply And.intro)) (by repeat' (first | exact trivial | rfl | apply And.intro)) rfl)) ?_
  rintro i l ⟨hl, hs, hi⟩
  have LL : (l.map encX).length = l.length := List.length_map ..
  have hc1 := cutG_in n 14 (by omega)
  have hc2 := cutG_in ids 13 (by omega)
  have hc3 := cutG_in i (1 + cutG ids 13) (by omega)
  have hc4 := cutG_in i 3 (by omega)
  have hc5 := cutG_in en 9 (by omega)
  have hOf := rowsO_fit (b := manyB) (l := l) (by omega)
  (conv => whnf); (repeat' (first | (refine arith_i ⟨by omega, by omega⟩ ?_; conv => whnf) | (refine arith_u ⟨by omega, by omega⟩ ?_; conv => whnf) | (refine arith_8 ⟨by omega, by omega⟩ ?_; conv => whnf) | (refine need_i (by first | omega | (simp only [List.length_append, List.length_cons, List.length_nil, List.length_map, List.length_replicate, List.length_modify]; omega)) ?_; conv => whnf) | ((with_reducible refine branch_tt ?_); conv => whnf) | ((with_reducible refine branch_ff ?_); conv => whnf) | (with_reducible refine branch_not ?_) | ((refine call_e (cut_ok _ _ (by omega)) ?_); conv => whnf) | (((refine call_w many_wk (rows_ok manyB l manyB_short (by omega) hs (by simp [manyB])) fun r hr => ?_; subst hr; rw [rowsR_eq])); conv => whnf) | (((refine call_w many_wk (rRows_ok manyB l manyB_short (by omega) hs (by simp [manyB])) fun r hr => ?_; subst hr; rw [rowsR_eq])); conv => whnf) | ((refine call_e (sameRows_ok (rowsO manyB l) (by omega) (fun r hr => by have := hOf.2 r hr; omega)) ?_); conv => whnf) | ((refine call_e awake8_ok ?_); conv => whnf) | ((with_reducible refine slc_e ?_); conv => whnf) | ((with_reducible refine callS_a ?_); conv => whnf) | ((with_reducible refine own_e ?_); conv => whnf) | ((with_reducible refine branch_d (fun hq => ?_) (fun hq => ?_)) <;> (try (exfalso; omega)) <;> (conv => whnf)) | ((with_reducible refine branch_e (fun hq => ?_) (fun hq => ?_)) <;> (try (exfalso; omega)) <;> (conv => whnf)) | ((with_reducible refine branch_n (fun hq => ?_) (fun hq => ?_)) <;> (try (exfalso; omega)) <;> (conv => whnf)) | ((with_reducible refine branch_i (fun hq => ?_) (fun hq => ?_)) <;> (try (exfalso; omega)) <;> (conv => whnf))))
  · generalize hid : cutG (↑i) (1 + cutG ids 13) = id at *
    generalize hmx : cutG (↑i) 3 = mx at *
    refine loop_i2 (fun (k : Nat) (fs : List Int) => k ≤ 9 ∧ fs.length ≤ k) (fun k fs => mkSt [(0, .int .i64 n), (1, .int .i64 ids), (2, .int .i64 en), (7, .own 900 60 5 (l.map encX)), (8, .int .i64 i), (9, .ptr 9 0), (10, .int .i64 k)] [(9, [.int .i64 id, .int .i64 1, .str ⟨#[113]⟩, .own 31 67 6 [[.int .i64 1, .int .i64 (1 + mx), .int .i64 0, .int .i64 0, .int .i64 0, .int .i64 0]], .own 901 3 1 (fs.map encI)])] false) (fun k _ => 9 - k) 0 [] ⟨by omega, by simp⟩ (Le.trans (le_adoptBox 9 4 901 3 1 rfl rfl) (le_mk (by repeat' (first | exact trivial | rfl | apply And.intro)) (by repeat' (first | exact trivial | rfl | apply And.intro)) rfl)) ?_
    rintro k fs ⟨hk, hfs⟩
    have LF : (fs.map encI).length = fs.length := List.length_map ..
    (conv => whnf); (repeat' (first | (refine arith_i ⟨by omega, by omega⟩ ?_; conv => whnf) | (refine arith_u ⟨by omega, by omega⟩ ?_; conv => whnf) | (refine arith_8 ⟨by omega, by omega⟩ ?_; conv => whnf) | (refine need_i (by first | omega | (simp only [List.length_append, List.length_cons, List.length_nil, List.length_map, List.length_replicate, List.length_modify]; omega)) ?_; conv => whnf) | ((with_reducible refine branch_tt ?_); conv => whnf) | ((with_reducible refine branch_ff ?_); conv => whnf) | (with_reducible refine branch_not ?_) | ((refine call_e (cut_ok _ _ (by omega)) ?_); conv => whnf) | ((simp only [snocI8]); conv => whnf) | ((with_reducible refine slc_e ?_); conv => whnf) | ((with_reducible refine callS_a ?_); conv => whnf) | ((with_reducible refine own_e ?_); conv => whnf) | ((with_reducible refine branch_d (fun hq => ?_) (fun hq => ?_)) <;> (try (exfalso; omega)) <;> (conv => whnf)) | ((with_reducible refine branch_e (fun hq => ?_) (fun hq => ?_)) <;> (try (exfalso; omega)) <;> (conv => whnf)) | ((with_reducible refine branch_n (fun hq => ?_) (fun hq => ?_)) <;> (try (exfalso; omega)) <;> (conv => whnf)) | ((with_reducible refine branch_i (fun hq => ?_) (fun hq => ?_)) <;> (try (exfalso; omega)) <;> (conv => whnf))))
    all_goals first
      | ((refine ⟨k + 1, fs, ⟨by omega, by omega⟩, le_mk ?_ ?_ rfl, by omega⟩ <;> (repeat' (first | exact trivial | rfl | apply And.intro))); done)
      | ((refine ⟨k + 1, fs ++ [(k : Int)], ⟨by omega, by simp; omega⟩, le_mk ?_ ?_ rfl, by omega⟩ <;> (repeat' (first | exact trivial | rfl | apply And.intro))); done)
      | (refine ⟨i + 1, l ++ [⟨id, 1, ⟨#[113]⟩, [⟨1, 1 + mx, 0, 0, 0, 0⟩], fs⟩], ⟨by simp; omega, fun x hx => ?_, by omega⟩, ?_, by omega⟩
         · rcases List.mem_append.1 hx with hx | hx
           · exact hs x hx
           · rw [List.mem_singleton.1 hx]
             exact ⟨by show (1 : Nat) ≤ 1000; omega, by show (1 : Nat) ≤ 1000; omega, by show fs.length ≤ 1000; omega⟩
         · rw [show (l ++ [(⟨id, 1, ⟨#[113]⟩, [⟨1, 1 + mx, 0, 0, 0, 0⟩], fs⟩ : Itm)]).map encX = l.map encX ++ [encX ⟨id, 1, ⟨#[113]⟩, [⟨1, 1 + mx, 0, 0, 0, 0⟩], fs⟩] from List.map_append]
           exact (le_mk (by repeat' (first | exact trivial | rfl | apply And.intro)) (by repeat' (first | exact trivial | rfl | apply And.intro)) rfl))
      | trace_state
  all_goals first
    | exact ret_p rfl rfl
    | (exfalso; simp_all; done)
    | trace_state
end Go.Proofs.Ytpglaaiecgjmmaa
