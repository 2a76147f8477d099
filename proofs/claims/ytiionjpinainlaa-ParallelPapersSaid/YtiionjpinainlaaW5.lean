/- Several texts in one: GL11c, GL10l, Pl11, GL11q, Srt, Shl, GL11d, GL11e, GL11v, GL11w, GL11h, GL11n, GL11o. -/
import Derived.Test.YtiionjpinainlaaW4
import Derived.Test.YtiionjpinainlaaMB
import Derived.Lib.SlicesCompact
import Derived.Test.YtiionjpinainlaaW1
import Derived.Shelf.Sort.Plain
import Derived.Shelf.Slices.In.SortNone
import Derived.Shelf.Slices.Reverse
import Derived.Sort.OwnSortedInts
import Derived.Shelf.Slices.CompactI
/- Layer 11: Restrict, where the caller goes on with the used options. -/
section
namespace Go.Proofs.Ytiionjpinainlaa
set_option linter.unusedVariables false
set_option linter.unusedSimpArgs false
set_option linter.unnecessarySimpa false
set_option linter.unusedSectionVars false
set_option maxRecDepth 10000
open Go.RowKit
def plGL11c_0 : Plan := (.take 0 (.take 1 (.take 2 (.take 3 (.take 5 (.take 6 (.take 7 (.take 8 (.alt 4 (.take 9 (.alt 10 (.alt 11 (.take 12 (.alt 13 .done .stop)) .stop) .stop)) .stop)))))))))
def plGL11c_1 : Plan := (.take 0 (.take 1 (.take 2 (.take 3 (.alt 4 (.alt 5 (.alt 6 (.take 7 (.alt 8 .done .stop)) .stop) .stop) .stop)))))
def plGL11c_2 : Plan := (.take 0 (.take 2 (.take 3 (.alt 1 (.alt 4 (.alt 5 (.alt 6 (.take 7 (.alt 8 .done .stop)) .stop) .stop) .stop) (.alt 4 (.alt 1 (.alt 5 (.alt 6 (.take 7 (.alt 8 .done .stop)) .stop) .stop) (.alt 5 (.alt 1 (.alt 6 (.take 7 (.alt 8 .done .stop)) .stop) .stop) .stop)) .stop)))))
def ResM (P : Prog) (an us : List Int) (r : AV) (ov : List (Nat × AV)) (bx : List (Nat × List AV)) : Prop :=
  ((resE P an us ≠ 0 ∧ r = .tup [.agg [.nil, .nil], .int .i64 (resE P an us)]) ∨ (resE P an us = 0 ∧ r = .tup [.agg [ints P.costs, rowsV (resRows P an us)], .int .i64 0])) ∧ ov = [(1002, .own 0 3 1 (us.map encI))] ∧ bx = []
theorem resM_err {P : Prog} {an us : List Int} {e : Int} {s : St} (hle : Le TT (s.put 0 (.tup [.agg [.nil, .nil], .int .i64 e])) (mkSt [(0, .tup [.agg [.nil, .nil], .int .i64 e]), (1002, .own 0 3 1 (us.map encI))] [] false)) (h : resE P an us = e) (he : e ≠ 0) (ht : s.tp = false) : aretM TT false (.tup [.agg [.nil, .nil], .int .i64 e]) (ResM P an us) s :=
  retM_i _ _ _ ht hle rfl ⟨.inl ⟨by omega, by rw [h]⟩, rfl, rfl⟩
theorem resM_fin {P : Prog} {an us : List Int} {s : St} {v : AV} (h : resE P an us = 0) (hle : Le TT (s.put 0 v) (mkSt [(0, .tup [.agg [ints P.costs, rowsV (resRows P an us)], .int .i64 0]), (1002, .own 0 3 1 (us.map encI))] [] false)) (ht : s.tp = false) : aretM TT false v (ResM P an us) s :=
  retM_i _ _ _ ht hle rfl ⟨.inr ⟨h, rfl⟩, rfl, rfl⟩
set_option maxHeartbeats 4000000 in
theorem restrictM_ok (P : Prog) (an us : List Int) (hP : Fits P) (ha : an.length ≤ 9223372036854775807) (hu : us.length ≤ 9223372036854775807) : GoodM Try.prog TT false 78 [progV P, ints an, .own 0 3 1 (us.map encI)] [] (ResM P an us) := by
  have LC : (P.costs.map encI).length = P.costs.length := List.length_map ..
  have LR : (P.rows.map encRow).length = P.rows.length := List.length_map ..
  have LA : (an.map encI).length = an.length := List.length_map ..
  have LU : (us.map encI).length = us.length := List.length_map ..
  refine good_of_m (fun _ => false) mixed tabOk Try.func78 rfl rfl Try.ntmps78 Try.results78 rfl rfl ?_
  (conv => whnf); (repeat' (first | (refine arith_i ⟨by omega, by omega⟩ ?_; conv => whnf) | (refine arith_u ⟨by omega, by omega⟩ ?_; conv => whnf) | (refine arith_8 ⟨by omega, by omega⟩ ?_; conv => whnf) | (refine need_i (by first | omega | (simp only [List.length_cons, List.length_nil]; omega) | (simp only [List.length_append, List.length_cons, List.length_nil, List.length_map, List.length_replicate, List.length_modify]; omega)) ?_; conv => whnf) | ((with_reducible refine branch_tt ?_); conv => whnf) | ((with_reducible refine branch_ff ?_); conv => whnf) | (with_reducible refine branch_not ?_) | ((refine call_e (valid_ok P hP.1 hP.2.1 hP.2.2) ?_); conv => whnf) | (((rw [LC]; refine call_e (pChoice_any an P.costs.length ha hP.1) ?_)); conv => whnf) | ((refine call_e (pChoice_any us P.costs.length hu hP.1) ?_); conv => whnf) | (((refine call_e (clone_ok P.costs hP.1) ?_)); conv => whnf) | ((with_reducible refine slc_e ?_); conv => whnf) | ((with_reducible refine callS_a ?_); conv => whnf) | ((with_reducible refine bld_a ?_); conv => whnf) | ((with_reducible refine own_e ?_); conv => whnf) | ((with_reducible refine mkmap_b ?_); conv => whnf) | (refine draw_i 13 plGL11c_0 (by decide +kernel) ?_; (conv => whnf); fail_if_success (guard_target =~ False)) | (refine draw_i 8 plGL11c_1 (by decide +kernel) ?_; (conv => whnf); fail_if_success (guard_target =~ False)) | (refine draw_i 8 plGL11c_2 (by decide +kernel) ?_; (conv => whnf); fail_if_success (guard_target =~ False)) | (refine draw_i 8 plGL11c_1 (by decide +kernel) ?_; (conv => whnf); fail_if_success (guard_target =~ False)) | (refine draw_i 8 plGL11c_2 (by decide +kernel) ?_; (conv => whnf); fail_if_success (guard_target =~ False)) | ((with_reducible refine And.intro ?_ ?_) <;> (conv => whnf)) | (with_reducible exact trivial) | ((with_reducible refine branch_d (fun hq => ?_) (fun hq => ?_)) <;> (try (exfalso; omega)) <;> (conv => whnf)) | ((with_reducible refine branch_e (fun hq => ?_) (fun hq => ?_)) <;> (try (exfalso; omega)) <;> (conv => whnf)) | ((with_reducible refine branch_n (fun hq => ?_) (fun hq => ?_)) <;> (try (exfalso; omega)) <;> (conv => whnf)) | ((with_reducible refine branch_i (fun hq => ?_) (fun hq => ?_)) <;> (try (exfalso; omega)) <;> (conv => whnf))))
  all_goals first
    | exact resM_err (e := 1) (le_mk (by repeat' (first | exact trivial | rfl | apply And.intro)) (by repeat' (first | exact trivial | rfl | apply And.intro)) rfl) (by rw [resE, if_pos (by assumption)]) (by omega) rfl
    | exact resM_err (e := 2) (le_mk (by repeat' (first | exact trivial | rfl | apply And.intro)) (by repeat' (first | exact trivial | rfl | apply And.intro)) rfl) (by rw [resE, if_neg (by simp [*]), if_pos (by simp [*])]) (by omega) rfl
    | skip
  have hv : validB P = true := by assumption
  have ha2 : choiceB an P.costs.length = true := by assumption
  have hu2 : choiceB us P.costs.length = true := by assumption
  have hcl := (validB_parts hv).1
  have hrl := (validB_parts hv).2.1
  have hal := choice_len ha2
  have hul := choice_len hu2
  refine loop_i (fun k : Nat => k ≤ P.rows.length) (fun k => mkSt [(1, ints an), (2, .own 0 3 1 (us.map encI)), (6, .ptr 6 0), (8, .int .i64 P.costs.length), (9, .ptr 9 0), (39, rowsV P.rows), (40, .int .i64 (P.rows.map encRow).length), (41, .int .i64 k), (1002, .own 0 3 1 (us.map encI))] [(3, [ints P.costs, rowsV P.rows]), (6, [.nil, .nil]), (9, [.own 36 3 1 (P.costs.map encI), .own 900 28 3 ((P.rows.take k).map encRow)])] false) (fun k => P.rows.length - k) 0 (Nat.zero_le _) (Le.trans (le_adoptBox 9 1 900 28 3 rfl rfl) (le_mk (by repeat' (first | exact trivial | rfl | apply And.intro)) (by repeat' (first | exact trivial | rfl | apply And.intro)) rfl)) ?_
  intro k hk
  have LT : ((P.rows.take k).map encRow).length = k := by simp; omega
  have LT2 : (P.rows.take k).length = k := by simp; omega
  (conv => whnf); (repeat' (first | (refine arith_i ⟨by omega, by omega⟩ ?_; conv => whnf) | (refine arith_u ⟨by omega, by omega⟩ ?_; conv => whnf) | (refine arith_8 ⟨by omega, by omega⟩ ?_; conv => whnf) | (refine need_i (by first | omega | (simp only [List.length_cons, List.length_nil]; omega) | (simp only [List.length_append, List.length_cons, List.length_nil, List.length_map, List.length_replicate, List.length_modify]; omega)) ?_; conv => whnf) | ((with_reducible refine branch_tt ?_); conv => whnf) | ((with_reducible refine branch_ff ?_); conv => whnf) | (with_reducible refine branch_not ?_) | (((refine idx_c (xs := P.rows) (by omega) fun r hrr => ?_; have hvr := valid_rows hv (List.mem_of_getElem? hrr); have hsn : (P.rows.take (k + 1)).map encRow = (P.rows.take k).map encRow ++ [encRow r] := (by rw [List.take_add_one, hrr, List.map_append]; rfl))); conv => whnf) | ((refine call_e (clone_ok r.coefs (by omega)) ?_); conv => whnf) | ((with_reducible refine slc_e ?_); conv => whnf) | ((with_reducible refine callS_a ?_); conv => whnf) | ((with_reducible refine bld_a ?_); conv => whnf) | ((with_reducible refine own_e ?_); conv => whnf) | ((with_reducible refine mkmap_b ?_); conv => whnf) | (refine draw_i 13 plGL11c_0 (by decide +kernel) ?_; (conv => whnf); fail_if_success (guard_target =~ False)) | (refine draw_i 8 plGL11c_1 (by decide +kernel) ?_; (conv => whnf); fail_if_success (guard_target =~ False)) | (refine draw_i 8 plGL11c_2 (by decide +kernel) ?_; (conv => whnf); fail_if_success (guard_target =~ False)) | (refine draw_i 8 plGL11c_1 (by decide +kernel) ?_; (conv => whnf); fail_if_success (guard_target =~ False)) | (refine draw_i 8 plGL11c_2 (by decide +kernel) ?_; (conv => whnf); fail_if_success (guard_target =~ False)) | ((with_reducible refine And.intro ?_ ?_) <;> (conv => whnf)) | (with_reducible exact trivial) | ((with_reducible refine branch_d (fun hq => ?_) (fun hq => ?_)) <;> (try (exfalso; omega)) <;> (conv => whnf)) | ((with_reducible refine branch_e (fun hq => ?_) (fun hq => ?_)) <;> (try (exfalso; omega)) <;> (conv => whnf)) | ((with_reducible refine branch_n (fun hq => ?_) (fun hq => ?_)) <;> (try (exfalso; omega)) <;> (conv => whnf)) | ((with_reducible refine branch_i (fun hq => ?_) (fun hq => ?_)) <;> (try (exfalso; omega)) <;> (conv => whnf))))
  · exact ⟨k + 1, by omega, by rw [hsn]; exact (le_mk (by repeat' (first | exact trivial | rfl | apply And.intro)) (by repeat' (first | exact trivial | rfl | apply And.intro)) rfl), by omega⟩
  have hkk : P.rows.take k = P.rows := List.take_of_length_le (by omega)
  rw [hkk]
  refine loop_i (fun j : Nat => j ≤ an.length) (fun j => mkSt [(1, ints an), (2, .own 0 3 1 (us.map encI)), (6, .ptr 6 0), (8, .int .i64 P.costs.length), (9, .ptr 9 0), (59, ints an), (60, .int .i64 (an.map encI).length), (61, .int .i64 j), (1002, .own 0 3 1 (us.map encI))] [(3, [ints P.costs, rowsV P.rows]), (6, [.nil, .nil]), (9, [.own 36 3 1 (P.costs.map encI), .own 900 28 3 ((P.rows ++ (an.take j).map fun a => unitRow P.costs.length a 1).map encRow)])] false) (fun j => an.length - j) 0 (Nat.zero_le _) (by rw [List.take_zero, List.map_nil, List.append_nil]; exact (le_mk (by repeat' (first | exact trivial | rfl | apply And.intro)) (by repeat' (first | exact trivial | rfl | apply And.intro)) rfl)) ?_
  intro j hj
  have LT3 : ((P.rows ++ (an.take j).map fun a => unitRow P.costs.length a 1).map encRow).length = P.rows.length + j := by simp; omega
  (conv => whnf); (repeat' (first | (refine arith_i ⟨by omega, by omega⟩ ?_; conv => whnf) | (refine arith_u ⟨by omega, by omega⟩ ?_; conv => whnf) | (refine arith_8 ⟨by omega, by omega⟩ ?_; conv => whnf) | (refine need_i (by first | omega | (simp only [List.length_cons, List.length_nil]; omega) | (simp only [List.length_append, List.length_cons, List.length_nil, List.length_map, List.length_replicate, List.length_modify]; omega)) ?_; conv => whnf) | ((with_reducible refine branch_tt ?_); conv => whnf) | ((with_reducible refine branch_ff ?_); conv => whnf) | (with_reducible refine branch_not ?_) | (((refine idx_c (xs := an) (by omega) fun a haa => ?_; have hae := choice_elt ha2 haa; have hsn : (P.rows ++ (an.take (j + 1)).map fun a => unitRow P.costs.length a 1).map encRow = (P.rows ++ (an.take j).map fun a => unitRow P.costs.length a 1).map encRow ++ [encRow (unitRow P.costs.length a 1)] := (by rw [List.take_add_one, haa]; simp))); conv => whnf) | ((refine call_e (single_ok P.costs.length a 1 (by omega) hae) ?_); conv => whnf) | ((with_reducible refine slc_e ?_); conv => whnf) | ((with_reducible refine callS_a ?_); conv => whnf) | ((with_reducible refine bld_a ?_); conv => whnf) | ((with_reducible refine own_e ?_); conv => whnf) | ((with_reducible refine mkmap_b ?_); conv => whnf) | (refine draw_i 13 plGL11c_0 (by decide +kernel) ?_; (conv => whnf); fail_if_success (guard_target =~ False)) | (refine draw_i 8 plGL11c_1 (by decide +kernel) ?_; (conv => whnf); fail_if_success (guard_target =~ False)) | (refine draw_i 8 plGL11c_2 (by decide +kernel) ?_; (conv => whnf); fail_if_success (guard_target =~ False)) | (refine draw_i 8 plGL11c_1 (by decide +kernel) ?_; (conv => whnf); fail_if_success (guard_target =~ False)) | (refine draw_i 8 plGL11c_2 (by decide +kernel) ?_; (conv => whnf); fail_if_success (guard_target =~ False)) | ((with_reducible refine And.intro ?_ ?_) <;> (conv => whnf)) | (with_reducible exact trivial) | ((with_reducible refine branch_d (fun hq => ?_) (fun hq => ?_)) <;> (try (exfalso; omega)) <;> (conv => whnf)) | ((with_reducible refine branch_e (fun hq => ?_) (fun hq => ?_)) <;> (try (exfalso; omega)) <;> (conv => whnf)) | ((with_reducible refine branch_n (fun hq => ?_) (fun hq => ?_)) <;> (try (exfalso; omega)) <;> (conv => whnf)) | ((with_reducible refine branch_i (fun hq => ?_) (fun hq => ?_)) <;> (try (exfalso; omega)) <;> (conv => whnf))))
  · exact ⟨j + 1, by omega, by rw [hsn]; exact (le_mk (by repeat' (first | exact trivial | rfl | apply And.intro)) (by repeat' (first | exact trivial | rfl | apply And.intro)) rfl), by omega⟩
  have hjj : an.take j = an := List.take_of_length_le (by omega)
  rw [hjj] at LT3 ⊢
  have LF : ∀ j, (freeL an (us.take j)).length ≤ j := fun j => Nat.le_trans (List.length_filter_le ..) (by simp; omega)
  refine loop_i (fun j : Nat => j ≤ us.length) (fun j => mkSt [(1, ints an), (6, .ptr 6 0), (8, .int .i64 P.costs.length), (9, .ptr 9 0), (74, .own 0 3 1 (us.map encI)), (75, .int .i64 (us.map encI).length), (76, .int .i64 j), (1002, .own 0 3 1 (us.map encI))] [(3, [ints P.costs, rowsV P.rows]), (6, [.nil, .nil]), (9, [.own 36 3 1 (P.costs.map encI), .own 900 28 3 ((resRows P an (us.take j)).map encRow)])] false) (fun j => us.length - j) 0 (Nat.zero_le _) (by rw [show resRows P an (us.take 0) = P.rows ++ an.map (fun a => unitRow P.costs.length a 1) by simp [resRows, freeL]]; exact (le_mk (by repeat' (first | exact trivial | rfl | apply And.intro)) (by repeat' (first | exact trivial | rfl | apply And.intro)) rfl)) ?_
  intro j hj
  have LT4 : ((resRows P an (us.take j)).map encRow).length ≤ P.rows.length + an.length + j := by
    have := LF j
    simp [resRows]; omega
  (conv => whnf); (repeat' (first | (refine arith_i ⟨by omega, by omega⟩ ?_; conv => whnf) | (refine arith_u ⟨by omega, by omega⟩ ?_; conv => whnf) | (refine arith_8 ⟨by omega, by omega⟩ ?_; conv => whnf) | (refine need_i (by first | omega | (simp only [List.length_cons, List.length_nil]; omega) | (simp only [List.length_append, List.length_cons, List.length_nil, List.length_map, List.length_replicate, List.length_modify]; omega)) ?_; conv => whnf) | ((with_reducible refine branch_tt ?_); conv => whnf) | ((with_reducible refine branch_ff ?_); conv => whnf) | (with_reducible refine branch_not ?_) | (((refine idx_c (xs := us) (by omega) fun a haa => ?_; have hae := choice_elt hu2 haa; have hfn := res_next (P := P) (an := an) haa)); conv => whnf) | ((refine call_e (single_ok P.costs.length a 0 (by omega) hae) ?_); conv => whnf) | ((refine call_e (containsI_ok an a (by omega)) ?_); conv => whnf) | ((with_reducible refine slc_e ?_); conv => whnf) | ((with_reducible refine callS_a ?_); conv => whnf) | ((with_reducible refine bld_a ?_); conv => whnf) | ((with_reducible refine own_e ?_); conv => whnf) | ((with_reducible refine mkmap_b ?_); conv => whnf) | (refine draw_i 13 plGL11c_0 (by decide +kernel) ?_; (conv => whnf); fail_if_success (guard_target =~ False)) | (refine draw_i 8 plGL11c_1 (by decide +kernel) ?_; (conv => whnf); fail_if_success (guard_target =~ False)) | (refine draw_i 8 plGL11c_2 (by decide +kernel) ?_; (conv => whnf); fail_if_success (guard_target =~ False)) | (refine draw_i 8 plGL11c_1 (by decide +kernel) ?_; (conv => whnf); fail_if_success (guard_target =~ False)) | (refine draw_i 8 plGL11c_2 (by decide +kernel) ?_; (conv => whnf); fail_if_success (guard_target =~ False)) | ((with_reducible refine And.intro ?_ ?_) <;> (conv => whnf)) | (with_reducible exact trivial) | ((with_reducible refine branch_d (fun hq => ?_) (fun hq => ?_)) <;> (try (exfalso; omega)) <;> (conv => whnf)) | ((with_reducible refine branch_e (fun hq => ?_) (fun hq => ?_)) <;> (try (exfalso; omega)) <;> (conv => whnf)) | ((with_reducible refine branch_n (fun hq => ?_) (fun hq => ?_)) <;> (try (exfalso; omega)) <;> (conv => whnf)) | ((with_reducible refine branch_i (fun hq => ?_) (fun hq => ?_)) <;> (try (exfalso; omega)) <;> (conv => whnf))))
  · rw [if_pos hq, List.append_nil] at hfn
    exact ⟨j + 1, by omega, by rw [hfn]; exact (le_mk (by repeat' (first | exact trivial | rfl | apply And.intro)) (by repeat' (first | exact trivial | rfl | apply And.intro)) rfl), by omega⟩
  · rw [if_neg (by rw [hq]; decide)] at hfn
    exact ⟨j + 1, by omega, by rw [hfn]; exact (le_mk (by repeat' (first | exact trivial | rfl | apply And.intro)) (by repeat' (first | exact trivial | rfl | apply And.intro)) rfl), by omega⟩
  all_goals
    have hjj2 : us.take j = us := List.take_of_length_le (by omega)
    rw [hjj2, List.length_map] at hq
  · exact resM_err (e := 3) (le_mk (by repeat' (first | exact trivial | rfl | apply And.intro)) (by repeat' (first | exact trivial | rfl | apply And.intro)) rfl) (by rw [resE, if_neg (by simp [*]), if_neg (by simp [*]), if_pos (by omega)]) (by omega) rfl
  · exact resM_fin (by rw [resE, if_neg (by simp [*]), if_neg (by simp [*]), if_neg (by omega)]) (Le.trans (le_erase 36) (Le.trans (le_erase 900) (le_mk ⟨by rw [hjj2] at *; rfl, rfl, trivial⟩ trivial rfl))) rfl
end Go.Proofs.Ytiionjpinainlaa
end

/- Layer 10, plain: excluding choices one after the other. -/
section
namespace Go.Proofs.Ytiionjpinainlaa
set_option linter.unusedVariables false
set_option linter.unusedSimpArgs false
set_option linter.unnecessarySimpa false
set_option linter.unusedSectionVars false
set_option maxRecDepth 10000
open Go.RowKit
theorem repCo_nth {n : Nat} {c : List Int} {i : Nat} (h : i < n) : nth (repCo n c) i = if hasB c (i : Int) then 1 else -1 := by
  simp [repCo, nth, List.getD_eq_getElem?_getD, h]
theorem sumOf_cons (vs : List Int) (x : Int) (ch : List Int) : sumOf vs (x :: ch) = nth vs x.toNat + sumOf vs ch := by
  have : ∀ k, k ≤ ch.length → sumTo vs (x :: ch) (k + 1) = nth vs x.toNat + sumTo vs ch k := by
    intro k
    induction k with
    | zero => intro _; simp [sumTo, nth]
    | succ k ih =>
      intro hk
      rw [sumTo, ih (by omega), sumTo]
      have : nth (x :: ch) (k + 1) = nth ch k := by simp [nth]
      rw [this]
      omega
  exact this ch.length (Nat.le_refl _)
theorem sumOf_nil (vs : List Int) : sumOf vs [] = 0 := rfl
/-- The row's sum: as many as are shared, less the others. -/
theorem rep_sum {n : Nat} {c : List Int} : ∀ {d : List Int} {lo : Nat}, Asc lo n d → sumOf (repCo n c) d = 2 * ((d.filter (hasB c)).length : Int) - d.length
  | [], lo, h => by simp [sumOf_nil]
  | x :: d, lo, h => by
    have hp := List.pairwise_cons.1 h.1
    have hx := h.2 x (by simp)
    have ih := rep_sum (n := n) (c := c) (d := d) (lo := lo) ⟨hp.2, fun y hy => h.2 y (by simp [hy])⟩
    rw [sumOf_cons, ih, repCo_nth (by omega), show ((x.toNat : Nat) : Int) = x by omega, List.filter_cons]
    cases hb : hasB c x with
    | true => simp; omega
    | false => simp; omega
theorem nodup_le {α : Type} [DecidableEq α] : ∀ {a b : List α}, a.Nodup → (∀ x ∈ a, x ∈ b) → a.length ≤ b.length
  | [], b, _, _ => by simp
  | x :: a, b, hn, hs => by
    have hn' := List.nodup_cons.1 hn
    have hx := hs x (by simp)
    have ih := nodup_le (a := a) (b := b.erase x) hn'.2 fun y hy => (List.mem_erase_of_ne (show y ≠ x from fun e => hn'.1 (by rw [← e]; exact hy))).2 (hs y (by simp [hy]))
    rw [List.length_erase_of_mem hx] at ih
    have := List.length_pos_of_mem hx
    simp only [List.length_cons]
    omega
theorem nodup_all {α : Type} [DecidableEq α] {a b : List α} (hn : a.Nodup) (hs : ∀ x ∈ a, x ∈ b) (hl : b.length ≤ a.length) : ∀ x ∈ b, x ∈ a := fun x hx => by
  rcases Classical.em (x ∈ a) with h | h
  · exact h
  · have := nodup_le (a := x :: a) (b := b) (List.nodup_cons.2 ⟨h, hn⟩) fun y hy => by
      rcases List.mem_cons.1 hy with rfl | hy
      · exact hx
      · exact hs y hy
    simp only [List.length_cons] at this
    omega
theorem asc_sub_len {n lo lo' : Nat} {d c : List Int} (hd : Asc lo n d) (hc : Asc lo' n c) (hs : ∀ x ∈ d, x ∈ c) : d.length ≤ c.length ∧ (d.length = c.length → d = c) := by
  have nd : d.Nodup := hd.1.imp (fun h => by omega)
  refine ⟨nodup_le nd hs, fun e => asc_ext hd hc fun x => ⟨hs x, nodup_all nd hs (by omega) x⟩⟩
/-- A choice meets the row exactly if it is another one. -/
theorem rep_meet {n : Nat} {c d : List Int} (hn : n ≤ 12) (hc : Asc 0 n c) (hd : Asc 0 n d) : meetB d (repRow n c) = decide (d ≠ c) := by
  have hs := rep_sum (c := c) hd
  have hdl := asc_len hd
  have hf : (d.filter (hasB c)).length ≤ d.length := List.length_filter_le ..
  have hfa : Asc 0 n (d.filter (hasB c)) := ⟨hd.1.filter _, fun x hx => hd.2 x (List.mem_filter.1 hx).1⟩
  have h1 := asc_sub_len hfa hc fun x hx => hasB_iff.1 (List.mem_filter.1 hx).2
  have h2 := asc_sub_len hfa hd fun x hx => (List.mem_filter.1 hx).1
  rw [Bool.eq_iff_iff]
  simp only [meetB, repRow, Bool.and_eq_true, decide_eq_true_eq, hs]
  constructor
  · rintro ⟨_, h⟩ rfl
    have : d.filter (hasB d) = d := List.filter_eq_self.2 fun x hx => hasB_iff.2 hx
    rw [this] at h
    omega
  · intro hne
    refine ⟨by omega, ?_⟩
    rcases Nat.lt_or_ge (d.filter (hasB c)).length c.length with h | h
    · omega
    · rcases Nat.lt_or_ge (d.filter (hasB c)).length d.length with h' | h'
      · omega
      · exact absurd ((h2.2 (by omega)).symm.trans (h1.2 (by omega))) hne
/-- The program without some choices. -/
def repsP (P : Prog) (E : List (List Int)) : Prog := ⟨P.costs, P.rows ++ E.map (repRow P.costs.length)⟩
section
variable {P : Prog} {E : List (List Int)}
theorem reps_met (hn : P.costs.length ≤ 12) (hE : ∀ c ∈ E, Asc 0 P.costs.length c) {d : List Int} (hd : Asc 0 P.costs.length d) : metB (repsP P E) d = (metB P d && decide (d ∉ E)) := by
  have : metB (repsP P E) d = (metB P d && E.all fun c => meetB d (repRow P.costs.length c)) := by
    simp only [metB, repsP, List.all_append, List.all_map]
    rfl
  rw [this]
  congr 1
  rw [Bool.eq_iff_iff, List.all_eq_true, decide_eq_true_eq]
  constructor
  · intro h hm
    have := h d hm
    rw [rep_meet hn (hE d hm) hd] at this
    simp at this
  · intro h c hc
    rw [rep_meet hn (hE c hc) hd]
    exact decide_eq_true fun e => h (e ▸ hc)
/-- What is left. -/
theorem reps_all (hn : P.costs.length ≤ 12) (hE : ∀ c ∈ E, Asc 0 P.costs.length c) {d : List Int} : d ∈ allF (repsP P E) ↔ d ∈ allF P ∧ d ∉ E := by
  rw [all_mem, all_mem]
  show Asc 0 P.costs.length d ∧ _ ↔ _
  constructor
  · rintro ⟨h1, h2⟩
    rw [reps_met hn hE h1, Bool.and_eq_true, decide_eq_true_eq] at h2
    exact ⟨⟨h1, h2.1⟩, h2.2⟩
  · rintro ⟨⟨h1, h2⟩, h3⟩
    exact ⟨h1, by rw [reps_met hn hE h1, Bool.and_eq_true, decide_eq_true_eq]; exact ⟨h2, h3⟩⟩
theorem all_nodup : (allF P).Nodup := all_sorted.imp fun {a b} h e => by
  subst e
  have := bef_asymm h
  rw [h] at this
  cases this
/-- What holds when some choices have been excluded, each the cheapest when its turn came. -/
structure NextInv (P : Prog) (E : List (List Int)) (cost : Int) : Prop where
  sub : ∀ c ∈ E, c ∈ allF P
  nd : E.Nodup
  low : ∀ d ∈ allF P, d ∉ E → cost ≤ sumOf P.costs d
  pos : 0 ≤ cost
variable {cost : Int}
theorem NextInv.found (h : NextInv P E cost) (hn : P.costs.length ≤ 12) : ((bestF (repsP P E)).1 = true ↔ E.length < (allF P).length) := by
  have hE : ∀ c ∈ E, Asc 0 P.costs.length c := fun c hc => (all_mem.1 (h.sub c hc)).1
  have hb := best_is (repsP P E)
  constructor
  · intro hf
    have hm := (reps_all hn hE).1 (hb.mem hf).1
    have := nodup_le (a := (bestF (repsP P E)).2.2 :: E) (b := allF P) (List.nodup_cons.2 ⟨hm.2, h.nd⟩) fun c hc => by
      rcases List.mem_cons.1 hc with rfl | hc
      · exact hm.1
      · exact h.sub c hc
    simp only [List.length_cons] at this
    omega
  · intro hlt
    cases hf : (bestF (repsP P E)).1 with
    | true => rfl
    | false =>
      exfalso
      have h0 := (hb.none hf).1
      have hall : ∀ d ∈ allF P, d ∈ E := fun d hd => by
        rcases Classical.em (d ∈ E) with h | h
        · exact h
        · have := (reps_all hn hE).2 ⟨hd, h⟩
          rw [h0] at this
          simp at this
      have := nodup_le (all_nodup (P := P)) hall
      omega
theorem NextInv.next (h : NextInv P E cost) (hv : validB P = true) (hf : (bestF (repsP P E)).1 = true) : cost ≤ (bestF (repsP P E)).2.1 ∧ (bestF (repsP P E)).2.2 ∈ allF P ∧ (bestF (repsP P E)).2.2 ∉ E ∧ NextInv P (E ++ [(bestF (repsP P E)).2.2]) (bestF (repsP P E)).2.1 := by
  have hn := (validB_parts hv).1
  have hE : ∀ c ∈ E, Asc 0 P.costs.length c := fun c hc => (all_mem.1 (h.sub c hc)).1
  have hb := best_is (repsP P E)
  have hm := hb.mem hf
  have hm2 := (reps_all hn hE).1 hm.1
  have hc1 : (bestF (repsP P E)).2.1 = sumOf P.costs (bestF (repsP P E)).2.2 := hm.2
  have hlo := h.low _ hm2.1 hm2.2
  refine ⟨by rw [hc1]; exact hlo, hm2.1, hm2.2, fun c hc => ?_, ?_, fun d hd hd' => ?_, by have := h.pos; omega⟩
  · rcases List.mem_append.1 hc with hc | hc
    · exact h.sub c hc
    · rw [List.mem_singleton.1 hc]; exact hm2.1
  · refine List.nodup_append.2 ⟨h.nd, by simp, fun a ha b hb' => ?_⟩
    rw [List.mem_singleton.1 hb']
    exact fun e => hm2.2 (e ▸ ha)
  · have : d ∈ allF (repsP P E) := (reps_all hn hE).2 ⟨hd, fun h => hd' (List.mem_append.2 (.inl h))⟩
    exact hb.least hf d this
end
end Go.Proofs.Ytiionjpinainlaa
end

/- Layer 11, plainly: sorting and compacting; maps as lists. -/
section
namespace Go.Proofs.Ytiionjpinainlaa
set_option linter.unusedVariables false
set_option linter.unusedSimpArgs false
set_option linter.unnecessarySimpa false
set_option linter.unusedSectionVars false
open Go.RowKit
theorem comp_sorted {d : Array Int} (hs : ∀ i j, i ≤ j → j < d.size → d[i]! ≤ d[j]!) : ∀ m, m ≤ d.size → (Lib.compactUpTo d m).Pairwise (· < ·) ∧ (∀ x ∈ Lib.compactUpTo d m, 0 < m ∧ x ≤ d[m - 1]!) ∧ ∀ x, x ∈ Lib.compactUpTo d m ↔ ∃ j, j < m ∧ d[j]! = x
  | 0, _ => by simp [Lib.compactUpTo]
  | m + 1, h => by
    obtain ⟨h1, h2, h3⟩ := comp_sorted hs m (by omega)
    have hm : d[m - 1]! ≤ d[m]! := hs _ _ (by omega) (by omega)
    rw [Lib.compactUpTo_succ]
    by_cases hk : Lib.keeps d m = true
    · rw [if_pos hk]
      refine ⟨?_, ?_, ?_⟩
      · rw [List.pairwise_append]
        refine ⟨h1, List.pairwise_singleton .., fun x hx y hy => ?_⟩
        rw [List.mem_singleton] at hy
        subst hy
        obtain ⟨hp, hle⟩ := h2 x hx
        have : d[m]! ≠ d[m - 1]! := by
          unfold Lib.keeps at hk
          rw [decide_eq_true_iff] at hk
          exact hk.resolve_left (by omega)
        omega
      · intro x hx
        rw [List.mem_append, List.mem_singleton] at hx
        refine ⟨by omega, ?_⟩
        show x ≤ d[m]!
        rcases hx with hx | rfl
        · have := (h2 x hx).2; omega
        · exact Int.le_refl _
      · intro x
        rw [List.mem_append, List.mem_singleton, h3]
        constructor
        · rintro (⟨j, hj, e⟩ | rfl)
          · exact ⟨j, by omega, e⟩
          · exact ⟨m, by omega, rfl⟩
        · rintro ⟨j, hj, e⟩
          rcases Nat.lt_or_ge j m with h' | h'
          · exact .inl ⟨j, h', e⟩
          · obtain rfl : j = m := by omega
            exact .inr e.symm
    · rw [if_neg hk, List.append_nil]
      unfold Lib.keeps at hk
      rw [decide_eq_true_iff] at hk
      have h0 : m ≠ 0 := fun e => hk (.inl e)
      have e1 : d[m]! = d[m - 1]! := Classical.byContradiction fun e => hk (.inr e)
      refine ⟨h1, fun x hx => ⟨by omega, ?_⟩, fun x => ?_⟩
      · show x ≤ d[m]!
        have := (h2 x hx).2; omega
      · rw [h3]
        constructor
        · rintro ⟨j, hj, e⟩; exact ⟨j, by omega, e⟩
        · rintro ⟨j, hj, e⟩
          rcases Nat.lt_or_ge j m with h' | h'
          · exact ⟨j, h', e⟩
          · obtain rfl : j = m := by omega
            exact ⟨j - 1, by omega, by rw [← e1]; exact e⟩
theorem comp_sort (xs : List Int) : (Lib.compact (xs.mergeSort fun x y => decide (x ≤ y))).Pairwise (· < ·) ∧ ∀ x, x ∈ Lib.compact (xs.mergeSort fun x y => decide (x ≤ y)) ↔ x ∈ xs := by
  have hp := List.pairwise_mergeSort (le := fun x y : Int => decide (x ≤ y)) (fun a b c h1 h2 => by simp at *; omega) (fun a b => by simp; omega) xs
  have hm : ∀ x, x ∈ xs.mergeSort (fun x y => decide (x ≤ y)) ↔ x ∈ xs := fun x => List.mem_mergeSort
  generalize xs.mergeSort (fun x y => decide (x ≤ y)) = zs at hp hm ⊢
  have get : ∀ i, i < zs.length → zs.toArray[i]! = zs[i]! := fun i hi => by simp
  obtain ⟨h1, -, h3⟩ := comp_sorted (d := zs.toArray) (fun i j hij hj => by
    have hj' : j < zs.length := by simpa using hj
    rcases Nat.lt_or_ge i j with h | h
    · have := List.pairwise_iff_getElem.1 hp i j (by omega) hj' h
      simp only [List.getElem!_toArray]
      rw [getElem!_pos zs i (by omega), getElem!_pos zs j hj']
      simpa using this
    · obtain rfl : i = j := by omega
      exact Int.le_refl _) zs.length (by simp)
  refine ⟨h1, fun x => ?_⟩
  rw [← hm]
  show x ∈ Lib.compactUpTo zs.toArray zs.length ↔ _
  rw [h3, List.mem_iff_getElem]
  constructor
  · rintro ⟨j, hj, e⟩
    exact ⟨j, hj, by rw [← e]; simp only [List.getElem!_toArray]; rw [getElem!_pos zs j hj]⟩
  · rintro ⟨j, hj, e⟩
    exact ⟨j, hj, by rw [← e]; simp only [List.getElem!_toArray]; rw [getElem!_pos zs j hj]⟩
section
variable {α : Type}
def keysM (l : List (Int × α)) : List Int := l.map (·.1)
theorem mfind_spec {n : Int} : ∀ {l : List (Int × α)} {i : Nat}, (∀ j v, mfind n l i = some (j, v) → i ≤ j ∧ l[j - i]? = some (n, v)) ∧ (mfind n l i = none ↔ n ∉ keysM l)
  | [], i => by simp [mfind, keysM]
  | (k, v) :: l, i => by
    have ih := mfind_spec (n := n) (l := l) (i := i + 1)
    by_cases h : n = k
    · subst h
      simp only [mfind, beq_self_eq_true, cond_true]
      refine ⟨fun j w e => ?_, by simp [keysM]⟩
      injection e with e
      injection e with e1 e2
      subst e1 e2
      simp
    · have hb : (n == k) = false := by simpa using h
      simp only [mfind, hb, cond_false]
      refine ⟨fun j w e => ?_, ?_⟩
      · obtain ⟨h1, h2⟩ := ih.1 j w e
        refine ⟨by omega, ?_⟩
        rw [show j - i = (j - (i + 1)) + 1 by omega, List.getElem?_cons_succ]
        exact h2
      · rw [ih.2]; simp [keysM, h]
theorem mget_key {n : Int} : ∀ {l : List (Int × α)}, (mget n l = none ↔ n ∉ keysM l)
  | [] => by simp [mget, keysM]
  | (k, v) :: l => by
    have ih := mget_key (n := n) (l := l)
    by_cases h : n = k
    · subst h; simp [mget, keysM]
    · have hb : (n == k) = false := by simpa using h
      simp only [mget, hb, cond_false, ih]
      simp [keysM, h]
theorem mget_app {n k : Int} {v : α} : ∀ {l : List (Int × α)}, mget n (l ++ [(k, v)]) = match mget n l with | some x => some x | none => if n = k then some v else none
  | [] => by
    by_cases h : n = k
    · subst h; simp [mget]
    · have hb : (n == k) = false := by simpa using h
      simp [mget, hb, h]
  | (q, w) :: l => by
    have ih := mget_app (n := n) (k := k) (v := v) (l := l)
    simp only [List.cons_append, mget]
    cases n == q with
    | true => rfl
    | false => simpa using ih
theorem mget_set {n k : Int} {v : α} : ∀ {l : List (Int × α)} {j : Nat} {x : α}, l[j]? = some (k, x) → (keysM l).Nodup → mget n (l.set j (k, v)) = if n = k then some v else mget n l
  | [], j, x, h, _ => by simp at h
  | (q, w) :: l, 0, x, h, hn => by
    simp only [List.getElem?_cons_zero, Option.some.injEq, Prod.mk.injEq] at h
    obtain ⟨rfl, rfl⟩ := h
    by_cases e : n = q
    · subst e; simp [mget]
    · have hb : (n == q) = false := by simpa using e
      simp [mget, hb, e]
  | (q, w) :: l, j + 1, x, h, hn => by
    rw [List.getElem?_cons_succ] at h
    have hq : q ∉ keysM l ∧ (keysM l).Nodup := by simpa [keysM] using hn
    have ih := mget_set (n := n) (v := v) h hq.2
    simp only [List.set_cons_succ, mget]
    by_cases e : n = q
    · subst e
      have hk : k ∈ keysM l := List.mem_map.2 ⟨_, List.mem_of_getElem? h, rfl⟩
      have : n ≠ k := fun e => hq.1 (e ▸ hk)
      simp [this]
    · have hb : (n == q) = false := by simpa using e
      simp only [hb, cond_false]
      exact ih
theorem mput_keys {k : Int} {v : α} {l : List (Int × α)} : keysM (mput k v l) = if k ∈ keysM l then keysM l else keysM l ++ [k] := by
  unfold mput
  obtain ⟨h1, h2⟩ := mfind_spec (n := k) (l := l) (i := 0)
  cases hm : mfind k l 0 with
  | none => rw [if_neg (h2.1 hm)]; simp [keysM]
  | some p =>
    obtain ⟨j, w⟩ := p
    obtain ⟨-, h⟩ := h1 j w hm
    rw [Nat.sub_zero] at h
    have hk : k ∈ keysM l := List.mem_map.2 ⟨_, List.mem_of_getElem? h, rfl⟩
    rw [if_pos hk]
    show (l.set j (k, v)).map (·.1) = l.map (·.1)
    rw [List.map_set]
    apply List.ext_getElem?
    intro i
    rw [List.getElem?_set]
    split
    · next e =>
      subst e
      split
      · rw [List.getElem?_map, h]; rfl
      · next hh => rw [List.getElem?_eq_none (by omega)]
    · rfl
theorem mput_nodup {k : Int} {v : α} {l : List (Int × α)} (h : (keysM l).Nodup) : (keysM (mput k v l)).Nodup := by
  rw [mput_keys]
  split
  · exact h
  · next hk =>
    rw [List.nodup_append]
    exact ⟨h, by simp, fun a ha b hb => by simp at hb; subst hb; exact fun e => hk (e ▸ ha)⟩
theorem mget_mput {n k : Int} {v : α} {l : List (Int × α)} (h : (keysM l).Nodup) : mget n (mput k v l) = if n = k then some v else mget n l := by
  unfold mput
  obtain ⟨h1, h2⟩ := mfind_spec (n := k) (l := l) (i := 0)
  cases hm : mfind k l 0 with
  | none =>
    have hk := h2.1 hm
    show mget n (l ++ [(k, v)]) = _
    rw [mget_app]
    by_cases e : n = k
    · subst e
      rw [mget_key.2 hk]
    · cases hg : mget n l <;> simp [e]
  | some p =>
    obtain ⟨j, w⟩ := p
    obtain ⟨-, h'⟩ := h1 j w hm
    rw [Nat.sub_zero] at h'
    exact mget_set h' h
end
end Go.Proofs.Ytiionjpinainlaa
end

/- Layer 11, plainly: what the rows for anchors and used options say. -/
section
namespace Go.Proofs.Ytiionjpinainlaa
set_option linter.unusedVariables false
set_option linter.unusedSimpArgs false
set_option linter.unnecessarySimpa false
set_option linter.unusedSectionVars false
set_option maxRecDepth 10000
open Go.RowKit
theorem unit_rowB {n : Nat} {a v : Int} (hv : -1 ≤ v ∧ v ≤ 1) : rowB n (unitRow n a v) = true := by
  simp only [rowB, unitRow, Bool.and_eq_true, decide_eq_true_eq]
  refine ⟨⟨⟨by simp [unitCo], ?_⟩, by rw [boundB_iff]; omega⟩, by rw [boundB_iff]; omega⟩
  rw [validCoefsB, List.all_eq_true]
  intro x hx
  rw [coefB_iff]
  unfold unitCo at hx
  rcases List.mem_or_eq_of_mem_set hx with h | h
  · have := List.eq_of_mem_replicate h; omega
  · omega
theorem res_valid {P : Prog} {an us : List Int} (hv : validB P = true) (hl : (resRows P an us).length ≤ 60) : validB ⟨P.costs, resRows P an us⟩ = true := by
  have h := validB_parts hv
  simp only [validB, Bool.and_eq_true, decide_eq_true_eq]
  refine ⟨⟨⟨by first | exact h.1 | exact decide_eq_true h.1, hl⟩, h.2.2.1⟩, ?_⟩
  unfold resRows
  rw [List.all_append, List.all_append, Bool.and_eq_true, Bool.and_eq_true]
  refine ⟨⟨h.2.2.2, ?_⟩, ?_⟩
  · rw [List.all_map, List.all_eq_true]
    exact fun a _ => unit_rowB (by omega)
  · rw [List.all_map, List.all_eq_true]
    exact fun a _ => unit_rowB (by omega)
theorem resE_zero {P : Prog} {an us : List Int} (h : resE P an us = 0) : validB P = true ∧ choiceB an P.costs.length = true ∧ choiceB us P.costs.length = true ∧ (resRows P an us).length ≤ 60 := by
  unfold resE at h
  split at h
  · omega
  · next h1 =>
    split at h
    · omega
    · next h2 =>
      split at h
      · omega
      · next h3 =>
        refine ⟨by simpa using h1, ?_, ?_, by omega⟩
        · cases hc : choiceB an P.costs.length with
          | true => rfl
          | false => exact absurd (.inl hc) h2
        · cases hc : choiceB us P.costs.length with
          | true => rfl
          | false => exact absurd (.inr hc) h2
/-! the used options, in order -/
def usedL (n : Nat) (us : List Int) : List Int := ((List.range n).filter fun i : Nat => hasB us (i : Int)).map fun i : Nat => (i : Int)
theorem usedL_mem {n : Nat} {us : List Int} {x : Int} : x ∈ usedL n us ↔ x ∈ us ∧ 0 ≤ x ∧ x < n := by
  simp only [usedL, List.mem_map, List.mem_filter, List.mem_range]
  constructor
  · rintro ⟨i, ⟨h1, h2⟩, rfl⟩
    exact ⟨hasB_iff.1 h2, by omega, by omega⟩
  · rintro ⟨h1, h2, h3⟩
    exact ⟨x.toNat, ⟨by omega, hasB_iff.2 (by rw [show ((x.toNat : Nat) : Int) = x by omega]; exact h1)⟩, by omega⟩
theorem usedL_asc {n : Nat} {us : List Int} : Asc 0 n (usedL n us) := by
  refine ⟨?_, fun x hx => by have := usedL_mem.1 hx; omega⟩
  unfold usedL
  rw [List.pairwise_map]
  refine List.Pairwise.filter _ ?_
  exact List.pairwise_lt_range.imp fun h => by omega
theorem used_sort {n : Nat} {us ch : List Int} (h : ∀ x ∈ us ++ ch, 0 ≤ x ∧ x < n) : Lib.compact ((us ++ ch).mergeSort fun x y => decide (x ≤ y)) = usedL n (us ++ ch) := by
  obtain ⟨h1, h2⟩ := comp_sort (us ++ ch)
  refine asc_ext (lo := 0) (hi := n) ⟨h1, fun x hx => ?_⟩ usedL_asc fun x => ?_
  · have := h x ((h2 x).1 hx); omega
  · rw [h2, usedL_mem]
    exact ⟨fun hx => ⟨hx, h x hx⟩, fun hx => hx.1⟩
end Go.Proofs.Ytiionjpinainlaa
end

/- Slices of the function's own are sorted or turned round: the shelf's contracts in the interpreter's words. -/
section
namespace Go.Proofs.Ytiionjpinainlaa
set_option linter.unusedVariables false
set_option linter.unusedSimpArgs false
set_option linter.unnecessarySimpa false
set_option linter.unusedSectionVars false
set_option maxRecDepth 10000
open Go.RowKit Go.Shelf Go.Sort
section
variable {P : Program} {tt : Nat} {b : Bool} {f : Nat}
theorem ints_css {w : World} {X : Nat → Prop} : ∀ {xs : List Int} {css : List (List Value)}, All2 (fun ds cs => ds.length = 1 ∧ All2 (RepV w X) ds cs) (xs.map encI) css → css = xs.map fun x => [Value.int .i64 x]
  | [], [], _ => rfl
  | x :: xs, c :: css, h => by
    obtain ⟨h1, h2⟩ := h
    have e := ints_css h2
    obtain ⟨u, us, rfl, h3, h4⟩ := h1.2.cons_inv
    obtain rfl := h4.nil_inv
    cases h3
    rw [e]; rfl
  | [], _ :: _, h => h.elim
  | _ :: _, [], h => h.elim
theorem css_ints {w : World} {X : Nat → Prop} : ∀ {xs : List Int}, All2 (fun ds cs => ds.length = 1 ∧ All2 (RepV w X) ds cs) (xs.map encI) (xs.map fun x => [Value.int .i64 x])
  | [] => trivial
  | x :: xs => ⟨⟨rfl, .int _ _, trivial⟩, css_ints⟩
theorem flat1 {α β : Type} (g : α → β) : ∀ xs : List α, (xs.map fun x => [g x]).flatten = xs.map g
  | [] => rfl
  | x :: xs => by simp [flat1 g xs]
theorem put_take (cur : Array Value) (ys : List Int) (h : ys.length ≤ cur.size) : (cur.toList.take (0 * 1) ++ (ys.map fun x => [Value.int .i64 x]).flatten ++ cur.toList.drop (0 * 1 + (ys.map fun x => [Value.int .i64 x]).flatten.length)).toArray = putCells (Value.int .i64) 0 ys.toArray cur := by
  apply Array.ext'
  simp only [flat1, Nat.zero_mul, List.take_zero, List.nil_append, Nat.zero_add, List.length_map]
  apply List.ext_getElem?
  intro j
  refine Eq.trans ?_ Array.getElem?_toList.symm
  show (ys.map (Value.int .i64) ++ cur.toList.drop ys.length)[j]? = _
  by_cases hj : j < ys.length
  · rw [List.getElem?_append_left (by simpa using hj)]
    simp [putCells, hj, show j < cur.size by omega]
  · rw [List.getElem?_append_right (by simpa using hj)]
    simp [putCells, hj, List.getElem?_drop, show ys.length + (j - ys.length) = j by omega]
/-- A function that lays other numbers into a slice of numbers. -/
theorem refill_ok (hent : Enters P f) (xs ys : List Int) (hl : ys.length = xs.length) (E : Nat)
    (hcall : ∀ (w : World) (g cap : Nat), Holds (Value.int .i64) w g 0 xs.toArray → g < w.heap.size → Calls P f #[.slice (some ⟨g, 0, none⟩) xs.length cap] w fun e w' => e = .returned (.tuple #[]) ∧ ∃ n os, w' = grow (putRow (Value.int .i64) (Sort.ahead w n) g 0 ys.toArray) os)
    (hnil : ∀ (w : World), Calls P f #[.slice none 0 0] w fun e w' => e = .returned (.tuple #[]) ∧ w' = w) :
    GoodM P tt b f [.own 0 E 1 (xs.map encI)] [] (fun r ov bx' => r = .tup [] ∧ ov = [(1000, .own 0 E 1 (ys.map encI))] ∧ bx' = []) := by
  refine ⟨hent, fun w0 G us S hA => ?_⟩
  obtain ⟨u, us', rfl, h1, h2⟩ := hA.cons_inv
  obtain rfl := h2.nil_inv
  obtain ⟨hT, css, ho, hcs⟩ := (show RC w0.B G w0.toWorld (.own 0 E 1 (xs.map encI)) u from h1)
  obtain rfl := ints_css hcs
  rcases ho.2 with ⟨rfl, h0⟩ | ⟨g, cap, cur, rfl, hg, hh, hc, hm, hsz, ht⟩
  · have hx : xs = [] := List.eq_nil_of_length_eq_zero (by simpa using h0)
    subst hx
    have hy : ys = [] := List.eq_nil_of_length_eq_zero (by simpa using hl)
    subst hy
    refine (hnil _).mono ?_
    rintro e w' ⟨rfl, rfl⟩
    exact ⟨_, .tup [], _, [], G, rfl, ⟨rfl, rfl, rfl⟩, S, ⟨[], rfl, trivial⟩⟩
  · have hlen : (xs.map encI).length = xs.length := List.length_map ..
    rw [hlen] at hc ht ⊢
    rw [Nat.mul_one, flat1] at ht
    have hlt : g < w0.toWorld.heap.size := (Array.getElem?_eq_some_iff.1 hh).1
    have hcur : ys.length ≤ cur.size := by omega
    refine (hcall _ g cap (holds_of_blockI hh ht) hlt).mono ?_
    rintro e w' ⟨rfl, n, os, rfl⟩
    have S1 := S.copyOwn (src := ys.map encI) (dss := ys.map fun x => [Value.int .i64 x]) (lo := 0) (z := 1) (T := 0) (n := (xs.map encI).length) hT hh (by simp [hl]) (by simp; omega) css_ints
    rw [put_take cur ys hcur] at S1
    have S2 := S1.world (w' := grow (putRow (Value.int .i64) (Sort.ahead w0.toWorld n) g 0 ys.toArray) os) ?sz ?bl ?ch
    case sz => simp [World.setRow, grow, putRow, mapBlock, Sort.ahead]
    case bl =>
      intro k hk
      by_cases hkg : k = g
      · subst hkg
        rw [heap_sortedI _ hh, setRow_heap _ _ _ _ _ _ hh]
      · rw [setRow_other _ _ _ _ hkg]
        have := (grownBy_sortedI (w := w0.toWorld) (g := g) (n := n) (os := os) ys.toArray).block k (by simpa [World.setRow] using hk) (by simpa using hkg)
        exact this
    case ch =>
      refine S.chg.grown (row := some g) (grownBy_sortedI _) fun k hk => ?_
      injection hk with hk
      subst hk
      rcases (S.ownLt 0 _ g hT rfl).1 with h | h
      · exact .inr h
      · exact .inl (.inr h)
    refine ⟨_, .tup [], [(1000, .own 0 E 1 (ys.map encI))], [], G, rfl, ⟨rfl, rfl, rfl⟩, ?_, ⟨[], rfl, trivial⟩⟩
    have e : spl (xs.map encI) 0 (ys.map encI) = ys.map encI := by simp [spl, hl]
    refine { S2 with slot := fun i => ?_, box := fun t cs h => by cases h }
    by_cases hi : i = 1000
    · subst hi
      have := S2.slot 1000
      rw [show ((mkSt (ovOf 1000 [AV.own 0 E 1 (xs.map encI)]) [] b).map (copyF 0 1 0 (ys.map encI))).slot 1000 = .own 0 E 1 (spl (xs.map encI) 0 (ys.map encI)) from rfl, e] at this
      exact this
    · rw [show (mkSt [(1000, AV.own 0 E 1 (ys.map encI))] [] b).slot i = .undef from by simp [mkSt, lk, beq_ne hi]]
      trivial
/-- A function that lays fewer numbers into a slice of numbers and returns that part. -/
theorem shrink_ok (hent : Enters P f) (xs ys : List Int) (hl : ys.length ≤ xs.length) (E : Nat)
    (hcall : ∀ (w : World) (g cap : Nat), Holds (Value.int .i64) w g 0 xs.toArray → g < w.heap.size → xs.length ≤ cap → Calls P f #[.slice (some ⟨g, 0, none⟩) xs.length cap] w fun e w' => e = .returned (.slice (some ⟨g, 0, none⟩) ys.length cap) ∧ ∃ n os, w' = grow (putRow (Value.int .i64) (Sort.ahead w n) g 0 (ys ++ List.replicate (xs.length - ys.length) 0).toArray) os)
    (hnil : ∀ (w : World), Calls P f #[.slice none 0 0] w fun e w' => e = .returned (.slice none 0 0) ∧ w' = w) :
    GoodM P tt b f [.own 0 E 1 (xs.map encI)] [] (fun r ov bx' => r = .own 0 E 1 (ys.map encI) ∧ ov = [] ∧ bx' = []) := by
  generalize hzs : ys ++ List.replicate (xs.length - ys.length) 0 = zs at hcall
  have hzl : zs.length = xs.length := by rw [← hzs]; simp; omega
  have hzt : zs.take ys.length = ys := by rw [← hzs]; simp
  refine ⟨hent, fun w0 G us S hA => ?_⟩
  obtain ⟨u, us', rfl, h1, h2⟩ := hA.cons_inv
  obtain rfl := h2.nil_inv
  obtain ⟨hT, css, ho, hcs⟩ := (show RC w0.B G w0.toWorld (.own 0 E 1 (xs.map encI)) u from h1)
  obtain rfl := ints_css hcs
  have hS0 : ∀ {s : St} {G : Gh} {w' : World}, Sim tt w0 G s a0 w' → s.tp = b → Sim tt w0 G (mkSt [] [] b) a0 w' := fun {s G w'} S' hb => by
    subst hb
    exact { S' with slot := fun i => trivial, box := fun t cs h => by cases h }
  rcases ho.2 with ⟨rfl, h0⟩ | ⟨g, cap, cur, rfl, hg, hh, hc, hm, hsz, ht⟩
  · have hx : xs = [] := List.eq_nil_of_length_eq_zero (by simpa using h0)
    subst hx
    have hy : ys = [] := List.eq_nil_of_length_eq_zero (by simpa using hl)
    subst hy
    refine (hnil _).mono ?_
    rintro e w' ⟨rfl, rfl⟩
    exact ⟨_, .own 0 E 1 [], [], [], G, rfl, ⟨rfl, rfl, rfl⟩, hS0 S rfl, h1⟩
  · have hlen : (xs.map encI).length = xs.length := List.length_map ..
    rw [hlen] at hc ht ⊢
    rw [Nat.mul_one, flat1] at ht
    have hlt : g < w0.toWorld.heap.size := (Array.getElem?_eq_some_iff.1 hh).1
    have hcur : zs.length ≤ cur.size := by omega
    refine (hcall _ g cap (holds_of_blockI hh ht) hlt hc).mono ?_
    rintro e w' ⟨rfl, n, os, rfl⟩
    have S1 := S.copyOwn (src := zs.map encI) (dss := zs.map fun x => [Value.int .i64 x]) (lo := 0) (z := 1) (T := 0) (n := (xs.map encI).length) hT hh (by simp [hzl]) (by simp; omega) css_ints
    rw [put_take cur zs hcur] at S1
    have S2 := S1.world (w' := grow (putRow (Value.int .i64) (Sort.ahead w0.toWorld n) g 0 zs.toArray) os) ?sz ?bl ?ch
    case sz => simp [World.setRow, grow, putRow, mapBlock, Sort.ahead]
    case bl =>
      intro k hk
      by_cases hkg : k = g
      · subst hkg
        rw [heap_sortedI _ hh, setRow_heap _ _ _ _ _ _ hh]
      · rw [setRow_other _ _ _ _ hkg]
        have := (grownBy_sortedI (w := w0.toWorld) (g := g) (n := n) (os := os) zs.toArray).block k (by simpa [World.setRow] using hk) (by simpa using hkg)
        exact this
    case ch =>
      refine S.chg.grown (row := some g) (grownBy_sortedI _) fun k hk => ?_
      injection hk with hk
      subst hk
      rcases (S.ownLt 0 _ g hT rfl).1 with h | h
      · exact .inr h
      · exact .inl (.inr h)
    have e : spl (xs.map encI) 0 (zs.map encI) = zs.map encI := by simp [spl, hzl]
    have hsl := S2.slot 1000
    rw [show ((mkSt (ovOf 1000 [AV.own 0 E 1 (xs.map encI)]) [] b).map (copyF 0 1 0 (zs.map encI))).slot 1000 = .own 0 E 1 (spl (xs.map encI) 0 (zs.map encI)) from rfl, e] at hsl
    obtain ⟨hT2, css2, ho2, hcs2⟩ := (show RC w0.B G _ (.own 0 E 1 (zs.map encI)) _ from hsl)
    rw [hT] at hT2
    injection hT2 with hT2
    rw [← hT2] at ho2
    obtain rfl := ints_css hcs2
    rcases ho2.2 with ⟨e0, _⟩ | ⟨g2, cap2, cur2, eu, k1, k2, k3, k4, k5, k6⟩
    · cases e0
    · simp only [Value.slice.injEq, Option.some.injEq, Addr.mk.injEq, and_true] at eu
      obtain ⟨rfl, -, rfl⟩ := eu
      have S3 := S2.setOwn 0 (.slice (some ⟨g, 0, none⟩) ys.length cap) (Nat.le_refl _) (fun _ _ _ => rfl) (fun b hb' => .inl ⟨_, hT, hb'⟩) S2.chg
      refine ⟨_, .own 0 E 1 (ys.map encI), [], [], { G with own := upd G.own 0 (some (.slice (some ⟨g, 0, none⟩) ys.length cap)) }, rfl, ⟨rfl, rfl, rfl⟩, hS0 S3 rfl, ?_⟩
      have hly : (ys.map encI).length = ys.length := List.length_map ..
      rw [flat1, List.length_map, hzl, Nat.mul_one] at k6
      refine show RC w0.B { G with own := upd G.own 0 (some (.slice (some ⟨g, 0, none⟩) ys.length cap)) } _ (.own 0 E 1 (ys.map encI)) _ from ⟨by simp [upd], ys.map fun x => [Value.int .i64 x], ⟨?_, .inr ⟨g, cap, cur2, by rw [hly], k1, k2, by rw [hly]; omega, k4, k5, ?_⟩⟩, css_ints⟩
      · rw [flat1]; simp
      · rw [flat1, hly, Nat.mul_one]
        have := congrArg (List.take ys.length) k6
        rw [List.take_take, Nat.min_eq_left hl, ← List.map_take, hzt] at this
        exact this
end
end Go.Proofs.Ytiionjpinainlaa
end

/- The shelf's contracts laid at this program, in plain text. (Printed by wip/mkshl.py.) -/
section
namespace Go.Proofs.Ytiionjpinainlaa
set_option linter.unusedVariables false
set_option maxRecDepth 100000
open Go.Shelf Go.Sort Go.RowKit
def laysSort_ren : Go.Shelf.Ren := ⟨fun | 189 => 79 | 125 => 99 | 257 => 98 | 128 => 110 | 129 => 111 | 294 => 101 | 295 => 102 | 296 => 103 | 297 => 104 | 298 => 105 | 299 => 106 | 216 => 107 | 300 => 108 | 301 => 109 | 328 => 112 | 329 => 113 | 330 => 114 | 331 => 115 | 332 => 116 | 215 => 117 | 343 => 118 | n => n, fun | 28 => 23 | 3 => 3 | 46 => 115 | 0 => 0 | 51 => 128 | 53 => 131 | 4 => 4 | 183 => 140 | 182 => 139 | 131 => 79 | 5 => 5 | 9 => 9 | 218 => 147 | 222 => 151 | 228 => 153 | 229 => 154 | n => n, fun | n => n⟩
theorem laysSort : Lays.n189 Try.prog laysSort_ren := {
  mixed := by kernel_rfl,
  f125 := Try.func99.trans (congrArg some (by kernel_rfl)),
  f128 := Try.func110.trans (congrArg some (by kernel_rfl)),
  f129 := Try.func111.trans (congrArg some (by kernel_rfl)),
  f189 := Try.func79.trans (congrArg some (by kernel_rfl)),
  f215 := Try.func117.trans (congrArg some (by kernel_rfl)),
  f216 := Try.func107.trans (congrArg some (by kernel_rfl)),
  f257 := Try.func98.trans (congrArg some (by kernel_rfl)),
  f294 := Try.func101.trans (congrArg some (by kernel_rfl)),
  f295 := Try.func102.trans (congrArg some (by kernel_rfl)),
  f296 := Try.func103.trans (congrArg some (by kernel_rfl)),
  f297 := Try.func104.trans (congrArg some (by kernel_rfl)),
  f298 := Try.func105.trans (congrArg some (by kernel_rfl)),
  f299 := Try.func106.trans (congrArg some (by kernel_rfl)),
  f300 := Try.func108.trans (congrArg some (by kernel_rfl)),
  f301 := Try.func109.trans (congrArg some (by kernel_rfl)),
  f328 := Try.func112.trans (congrArg some (by kernel_rfl)),
  f329 := Try.func113.trans (congrArg some (by kernel_rfl)),
  f330 := Try.func114.trans (congrArg some (by kernel_rfl)),
  f331 := Try.func115.trans (congrArg some (by kernel_rfl)),
  f332 := Try.func116.trans (congrArg some (by kernel_rfl)),
  f343 := Try.func118.trans (congrArg some (by kernel_rfl)),
  t0 := Try.underlying0,
  a0 := Try.isAgg0,
  z0 := Try.sizeOf0,
  v0 := Try.zeroValue0,
  t3 := Try.underlying3,
  a3 := Try.isAgg3,
  z3 := Try.sizeOf3,
  v3 := Try.zeroValue3,
  t4 := Try.underlying4,
  a4 := Try.isAgg4,
  z4 := Try.sizeOf4,
  v4 := Try.zeroValue4,
  t5 := Try.underlying5,
  a5 := Try.isAgg5,
  z5 := Try.sizeOf5,
  v5 := Try.zeroValue5,
  t9 := Try.underlying9,
  a9 := Try.isAgg9,
  z9 := Try.sizeOf9,
  v9 := Try.zeroValue9,
  t28 := Try.underlying23,
  a28 := Try.isAgg23,
  z28 := Try.sizeOf23,
  v28 := Try.zeroValue23,
  t46 := Try.underlying115,
  a46 := Try.isAgg115,
  z46 := Try.sizeOf115,
  v46 := Try.zeroValue115,
  t51 := Try.underlying128,
  a51 := Try.isAgg128,
  z51 := Try.sizeOf128,
  v51 := Try.zeroValue128,
  t53 := Try.underlying131,
  a53 := Try.isAgg131,
  z53 := Try.sizeOf131,
  v53 := Try.zeroValue131,
  t131 := Try.underlying79,
  a131 := Try.isAgg79,
  z131 := Try.sizeOf79,
  v131 := Try.zeroValue79,
  t182 := Try.underlying139,
  a182 := Try.isAgg139,
  z182 := Try.sizeOf139,
  v182 := Try.zeroValue139,
  t183 := Try.underlying140,
  a183 := Try.isAgg140,
  z183 := Try.sizeOf140,
  v183 := Try.zeroValue140,
  t218 := Try.underlying147,
  a218 := Try.isAgg147,
  z218 := Try.sizeOf147,
  v218 := Try.zeroValue147,
  t222 := Try.underlying151,
  a222 := Try.isAgg151,
  z222 := Try.sizeOf151,
  v222 := Try.zeroValue151,
  t228 := Try.underlying153,
  a228 := Try.isAgg153,
  z228 := Try.sizeOf153,
  v228 := Try.zeroValue153,
  t229 := Try.underlying154,
  a229 := Try.isAgg154,
  z229 := Try.sizeOf154,
  v229 := Try.zeroValue154 }
def laysCpt_ren : Go.Shelf.Ren := ⟨fun | 20 => 80 | n => n, fun | 22 => 23 | 3 => 3 | 4 => 4 | 0 => 0 | n => n, fun | n => n⟩
theorem laysCpt : Lays2.n20 Try.prog laysCpt_ren := {
  mixed := by kernel_rfl,
  f20 := Try.func80.trans (congrArg some (by kernel_rfl)),
  t0 := Try.underlying0,
  a0 := Try.isAgg0,
  z0 := Try.sizeOf0,
  v0 := Try.zeroValue0,
  t3 := Try.underlying3,
  a3 := Try.isAgg3,
  z3 := Try.sizeOf3,
  v3 := Try.zeroValue3,
  t4 := Try.underlying4,
  a4 := Try.isAgg4,
  z4 := Try.sizeOf4,
  v4 := Try.zeroValue4,
  t22 := Try.underlying23,
  a22 := Try.isAgg23,
  z22 := Try.sizeOf23,
  v22 := Try.zeroValue23,
  i3 := by kernel_rfl }
theorem sortI_ok {b : Bool} (xs : List Int) (hl : xs.length ≤ 1000000) : GoodM Try.prog TT b 79 [.own 0 3 1 (xs.map encI)] [] (fun r ov bx' => r = .tup [] ∧ ov = [(1000, .own 0 3 1 ((xs.mergeSort fun x y => decide (x ≤ y)).map encI))] ∧ bx' = []) :=
  refill_ok (enters_of Try.func79 rfl rfl) xs _ (by simp) _ (fun w g cap hH hb => Any.slices_Sort_int laysSort g 0 cap xs w hH hb (by omega)) (fun w => Any.slices_Sort_int_none laysSort none 0 w)
theorem compact_le {xs : List Int} : (Lib.compact xs).length ≤ xs.length := by
  unfold Lib.compact Lib.compactUpTo
  rw [List.length_map]
  exact Nat.le_trans (List.length_filter_le ..) (by simp)
theorem compactI_ok {b : Bool} (xs : List Int) (hl : xs.length ≤ 1000000) : GoodM Try.prog TT b 80 [.own 0 3 1 (xs.map encI)] [] (fun r ov bx' => r = .own 0 3 1 ((Lib.compact xs).map encI) ∧ ov = [] ∧ bx' = []) :=
  shrink_ok (enters_of Try.func80 rfl rfl) xs _ compact_le _ (fun w g cap hH hb hc => (Any.slices_Compact_int laysCpt g 0 cap xs w hH (by omega) hc).mono fun e w' h => ⟨h.1, by obtain ⟨n, hn⟩ := h.2; exact ⟨n, #[], by rw [hn, grow_empty]⟩⟩) (fun w => Any.slices_Compact_int_empty laysCpt none 0 w)
end Go.Proofs.Ytiionjpinainlaa
end

/- Layer 11: Assemble of the program. -/
section
namespace Go.Proofs.Ytiionjpinainlaa
set_option linter.unusedVariables false
set_option linter.unusedSimpArgs false
set_option linter.unnecessarySimpa false
set_option linter.unusedSectionVars false
set_option maxRecDepth 10000
open Go.RowKit
def encPl (p : Pln) : List AV := [.bool p.found, ints p.chosen, .int .i64 p.cost, ndsV p.nodes]
def bestR (P : Prog) (an us : List Int) : Bool × Int × List Int := bestF ⟨P.costs, resRows P an us⟩
def planR (P : Prog) (an us : List Int) (wn : Bool) : Pln := ⟨true, (bestR P an us).2.2, (bestR P an us).2.1, if wn then certF ⟨P.costs, resRows P an us⟩ true (bestR P an us).2.1 else []⟩
def nextU (P : Prog) (an us : List Int) : List Int := usedL P.costs.length (us ++ (bestR P an us).2.2)
def asmF (P : Prog) (an : List Int) (wn : Bool) : Nat → List Int → List Pln → List Pln × Int
  | 0, us, acc => (acc, 0)
  | m + 1, us, acc => if resE P an us ≠ 0 then ([], resE P an us) else if (bestR P an us).1 = false then ([], 10) else asmF P an wn m (nextU P an us) (acc ++ [planR P an us wn])
def asmP (P : Prog) (an : List Int) (k : Int) (wn : Bool) : List Pln × Int := if validB P = false then ([], 1) else if choiceB an P.costs.length = false ∨ k < 1 ∨ 4 < k then ([], 2) else asmF P an wn k.toNat [] []
def plsV (l : List Pln) : AV := .lst 4 (l.map encPl)
def asmV (P : Prog) (an : List Int) (k : Int) (wn : Bool) : AV := .tup [plsV (asmP P an k wn).1, .int .i64 (asmP P an k wn).2]
theorem asm_err {P : Prog} {an : List Int} {k e : Int} {wn : Bool} (h : asmP P an k wn = ([], e)) : aret (.tup [.nil, .int .i64 e]) (· = asmV P an k wn) :=
  ret_t (rs := [plsV [], .int .i64 e]) ⟨rc_n.g, (rc_p rfl).g, trivial⟩ (by rw [asmV, h])
theorem sortI_at {b : Bool} {xs : List Int} {es : List (List AV)} (he : xs.map encI = es) (hl : xs.length ≤ 1000000) : GoodM Try.prog TT b 79 [.own 0 3 1 es] [] (fun r ov bx' => r = .tup [] ∧ ov = [(1000, .own 0 3 1 ((xs.mergeSort fun x y => decide (x ≤ y)).map encI))] ∧ bx' = []) := he ▸ sortI_ok xs hl
theorem solve_res {P : Prog} {an us : List Int} (h : resE P an us = 0) : Good Try.prog TT false 9 [progV (resP P an us)] (· = .tup [.agg [.bool (bestR P an us).1, ints (bestR P an us).2.2, .int .i64 (bestR P an us).2.1, ndsV (certF ⟨P.costs, resRows P an us⟩ (bestR P an us).1 (bestR P an us).2.1)], .int .i64 0]) := by
  obtain ⟨h1, h2, h3, h4⟩ := resE_zero h
  have hv := res_valid (an := an) (us := us) h1 h4
  have e : resP P an us = ⟨P.costs, resRows P an us⟩ := by rw [resP, if_pos h]
  rw [e]
  have := solve_ok ⟨P.costs, resRows P an us⟩ (fits_of hv)
  rwa [solveV, if_pos hv] at this
theorem solve_res' {P : Prog} {an us : List Int} (h : resE P an us = 0) : Good Try.prog TT false 9 [.agg [ints P.costs, rowsV (resRows P an us)]] (· = .tup [.agg [.bool (bestR P an us).1, ints (bestR P an us).2.2, .int .i64 (bestR P an us).2.1, ndsV (certF ⟨P.costs, resRows P an us⟩ (bestR P an us).1 (bestR P an us).2.1)], .int .i64 0]) := by
  have := solve_res h
  rwa [resP, if_pos h] at this
theorem best_in {P : Prog} {an us : List Int} (h : resE P an us = 0) : (bestR P an us).2.2.length ≤ 12 ∧ ((bestR P an us).1 = true → Asc 0 P.costs.length (bestR P an us).2.2) := by
  obtain ⟨h1, h2, h3, h4⟩ := resE_zero h
  have hv := res_valid (an := an) (us := us) h1 h4
  exact ⟨best_len hv, fun hb => (best_meets hv hb).2.2⟩
theorem asc_len12 {P : Prog} {us : List Int} (hv : validB P = true) (h : Asc 0 P.costs.length us) : us.length ≤ 12 := by
  have := asc_len h; have := (validB_parts hv).1; omega
set_option maxHeartbeats 4000000 in
theorem assemble_ok (P : Prog) (an : List Int) (k : Int) (hP : Fits P) (ha : an.length ≤ 9223372036854775807) : Good Try.prog TT false 50 [progV P, ints an, .int .i64 k] (· = asmV P an k true) := by
  have LC : (P.costs.map encI).length = P.costs.length := List.length_map ..
  refine good_of mixed tabOk Try.func50 rfl rfl Try.ntmps50 Try.results50 rfl rfl ?_
  (conv => whnf); (repeat' (first | (refine arith_i ⟨by omega, by omega⟩ ?_; conv => whnf) | (refine arith_u ⟨by omega, by omega⟩ ?_; conv => whnf) | (refine arith_8 ⟨by omega, by omega⟩ ?_; conv => whnf) | (refine need_i (by first | omega | (simp only [List.length_cons, List.length_nil]; omega) | (simp only [List.length_append, List.length_cons, List.length_nil, List.length_map, List.length_replicate, List.length_modify]; omega)) ?_; conv => whnf) | ((with_reducible refine branch_tt ?_); conv => whnf) | ((with_reducible refine branch_ff ?_); conv => whnf) | (with_reducible refine branch_not ?_) | ((refine call_e (valid_ok P hP.1 hP.2.1 hP.2.2) ?_); conv => whnf) | (((rw [LC]; refine call_e (pChoice_any an P.costs.length ha hP.1) ?_)); conv => whnf) | ((with_reducible refine slc_e ?_); conv => whnf) | ((with_reducible refine callS_a ?_); conv => whnf) | ((with_reducible refine bld_a ?_); conv => whnf) | ((with_reducible refine own_e ?_); conv => whnf) | ((with_reducible refine mkmap_b ?_); conv => whnf) | ((with_reducible refine branch_d (fun hq => ?_) (fun hq => ?_)) <;> (try (exfalso; omega)) <;> (conv => whnf)) | ((with_reducible refine branch_e (fun hq => ?_) (fun hq => ?_)) <;> (try (exfalso; omega)) <;> (conv => whnf)) | ((with_reducible refine branch_n (fun hq => ?_) (fun hq => ?_)) <;> (try (exfalso; omega)) <;> (conv => whnf)) | ((with_reducible refine branch_i (fun hq => ?_) (fun hq => ?_)) <;> (try (exfalso; omega)) <;> (conv => whnf))))
  all_goals first
    | exact asm_err (e := 1) (by rw [asmP, if_pos (by assumption)])
    | exact asm_err (e := 2) (by rw [asmP, if_neg (by simp [*]), if_pos (by simp [*])])
    | exact asm_err (e := 2) (by rw [asmP, if_neg (by simp [*]), if_pos (by omega)])
    | skip
  have hv : validB P = true := by assumption
  have ha2 : choiceB an P.costs.length = true := by assumption
  refine loop_i3 (fun (v : Nat) (us : List Int) (acc : List Pln) => v ≤ k.toNat ∧ Asc 0 P.costs.length us ∧ acc.length = v ∧ asmF P an true (k.toNat - v) us acc = asmF P an true k.toNat [] []) (fun v us acc => mkSt [(1, ints an), (3, .ptr 3 0), (8, .own 901 31 4 (acc.map encPl)), (9, .own 902 3 1 (us.map encI)), (30, .int .i64 k), (31, .int .i64 v)] [(3, [ints P.costs, rowsV P.rows])] false) (fun v _ _ => k.toNat - v) 0 [] [] ⟨Nat.zero_le _, ⟨List.Pairwise.nil, by simp⟩, rfl, rfl⟩ (Le.trans (le_adopt 8 901 31 4 rfl) (Le.trans (le_adopt 9 902 3 1 rfl) (le_mk (by repeat' (first | exact trivial | rfl | apply And.intro)) (by repeat' (first | exact trivial | rfl | apply And.intro)) rfl))) ?_
  rintro v us acc ⟨hvk, hu, hacc, hgo⟩
  have hul := asc_len12 hv hu
  have LU : (us.map encI).length = us.length := List.length_map ..
  have LA : (acc.map encPl).length = acc.length := List.length_map ..
  (conv => whnf); (repeat' (first | (refine arith_i ⟨by omega, by omega⟩ ?_; conv => whnf) | (refine arith_u ⟨by omega, by omega⟩ ?_; conv => whnf) | (refine arith_8 ⟨by omega, by omega⟩ ?_; conv => whnf) | (refine need_i (by first | omega | (simp only [List.length_cons, List.length_nil]; omega) | (simp only [List.length_append, List.length_cons, List.length_nil, List.length_map, List.length_replicate, List.length_modify]; omega)) ?_; conv => whnf) | ((with_reducible refine branch_tt ?_); conv => whnf) | ((with_reducible refine branch_ff ?_); conv => whnf) | (with_reducible refine branch_not ?_) | (((refine mcall_i [] [(0, 902)] _ Le.refl (restrictM_ok P an us hP ha (by omega)) rfl rfl rfl trivial ?_; rintro r ov bx' ⟨hres, rfl, rfl⟩; rcases hres with ⟨hnz, rfl⟩ | ⟨hz, rfl⟩ <;> refine ⟨rfl, ?_⟩ <;> (conv => whnf))); conv => whnf) | (((obtain ⟨hb1, hb2⟩ := best_in hz; have LB : ((bestR P an us).2.2.map encI).length = (bestR P an us).2.2.length := (List.length_map ..); refine call_e (solve_res' hz) ?_)); conv => whnf) | ((refine mcall_e [] [(0, 902)] (sortI_at (xs := us ++ (bestR P an us).2.2) List.map_append (by rw [List.length_append]; omega)) rfl rfl rfl trivial rfl ?_); conv => whnf) | ((refine rcall_e [] [(0, 902)] [] [] (compactI_ok _ (by rw [List.length_mergeSort, List.length_append]; omega)) rfl rfl rfl rfl trivial rfl ?_); conv => whnf) | ((with_reducible refine slc_e ?_); conv => whnf) | ((with_reducible refine callS_a ?_); conv => whnf) | ((with_reducible refine bld_a ?_); conv => whnf) | ((with_reducible refine own_e ?_); conv => whnf) | ((with_reducible refine mkmap_b ?_); conv => whnf) | ((with_reducible refine branch_d (fun hq => ?_) (fun hq => ?_)) <;> (try (exfalso; omega)) <;> (conv => whnf)) | ((with_reducible refine branch_e (fun hq => ?_) (fun hq => ?_)) <;> (try (exfalso; omega)) <;> (conv => whnf)) | ((with_reducible refine branch_n (fun hq => ?_) (fun hq => ?_)) <;> (try (exfalso; omega)) <;> (conv => whnf)) | ((with_reducible refine branch_i (fun hq => ?_) (fun hq => ?_)) <;> (try (exfalso; omega)) <;> (conv => whnf))))
  · refine asm_err (e := resE P an us) ?_
    have hm : k.toNat - v = (k.toNat - v - 1) + 1 := by omega
    rw [asmP, if_neg (by simp [*]), if_neg (by simp [*]), ← hgo, hm, asmF, if_pos hnz]
  · have hf : (bestR P an us).1 = true := by assumption
    have hm : k.toNat - v = (k.toNat - (v + 1)) + 1 := by omega
    have h8 : acc.map encPl ++ [[AV.bool (bestR P an us).1, ints (bestR P an us).2.2, .int .i64 (bestR P an us).2.1, ndsV (certF ⟨P.costs, resRows P an us⟩ (bestR P an us).1 (bestR P an us).2.1)]] = (acc ++ [planR P an us true]).map encPl := by
      rw [hf, List.map_append]; rfl
    have h9 : Lib.compact ((us ++ (bestR P an us).2.2).mergeSort fun x y => decide (x ≤ y)) = nextU P an us := used_sort fun x hx => by
      rcases List.mem_append.1 hx with h | h
      · have := hu.2 x h; omega
      · have := (hb2 hf).2 x h; omega
    refine ⟨v + 1, nextU P an us, acc ++ [planR P an us true], ⟨by omega, usedL_asc, by simp; omega, ?_⟩, le_mk ⟨rfl, rfl, congrArg (AV.own 901 31 4) h8, congrArg (fun x => AV.own 902 3 1 (List.map encI x)) h9, rfl, rfl, trivial⟩ ⟨rfl, trivial⟩ rfl, by omega⟩
    rw [← hgo, hm, asmF, if_neg (by omega), if_neg (by rw [hf]; decide)]
  · have hf : (bestR P an us).1 = false := by assumption
    have hm : k.toNat - v = (k.toNat - (v + 1)) + 1 := by omega
    refine asm_err (e := 10) ?_
    rw [asmP, if_neg (by simp [*]), if_neg (by simp [*]), ← hgo, hm, asmF, if_neg (by omega), if_pos hf]
  · refine ret_t (rs := [plsV acc, .int .i64 0]) ⟨rc_o.g, (rc_p rfl).g, trivial⟩ ?_
    have hm : k.toNat - v = 0 := by omega
    rw [asmV, asmP, if_neg (by simp [*]), if_neg (by simp [*]), ← hgo, hm, asmF]
end Go.Proofs.Ytiionjpinainlaa
end

/- Layer 11: the chapter's example; the laws ParallelRestricts and ParallelMany. -/
section
namespace Go.Proofs.Ytiionjpinainlaa
set_option linter.unusedVariables false
set_option linter.unusedSimpArgs false
set_option linter.unnecessarySimpa false
set_option linter.unusedSectionVars false
set_option maxRecDepth 10000
open Go.RowKit
def wP : Prog := ⟨[1, 2, 3, 4], [⟨[1, 1, 1, 1], 2, 2⟩]⟩
theorem wfits : Fits wP := ⟨by decide, by decide, by decide⟩
theorem wch : ((asmP wP [0] 2 true).1.map (·.chosen), (asmP wP [0] 2 true).2) = ([[0, 1], [0, 2]], 0) := by decide +kernel
theorem wno : (asmP wP [0] 4 true).2 = 10 := by decide +kernel
theorem wtwo : ∃ p q, asmV wP [0] 2 true = .tup [plsV [p, q], .int .i64 0] ∧ p.chosen = [0, 1] ∧ q.chosen = [0, 2] := by
  have h := wch
  rw [Prod.mk.injEq] at h
  obtain ⟨h1, h2⟩ := h
  unfold asmV
  rw [h2]
  generalize (asmP wP [0] 2 true).1 = l at h1 ⊢
  rcases l with _ | ⟨p, _ | ⟨q, _ | ⟨r, l⟩⟩⟩ <;> simp only [List.map_cons, List.map_nil, List.cons.injEq, and_true, reduceCtorEq, and_false] at h1
  exact ⟨p, q, rfl, h1.1, h1.2⟩
set_option maxHeartbeats 2000000 in
theorem awake11_ok : Good Try.prog TT false 22 [] (· = .bool true) := by
  obtain ⟨p, q, hV, hp, hqc⟩ := wtwo
  have hA := (assemble_ok wP [0] 2 wfits (by decide)).mono fun r h => h.trans hV
  have hB := (assemble_ok wP [0] 4 wfits (by decide)).mono fun r (h : r = .tup [plsV (asmP wP [0] 4 true).1, .int .i64 (asmP wP [0] 4 true).2]) => h.trans (by rw [wno] : _ = AV.tup [plsV (asmP wP [0] 4 true).1, .int .i64 10])
  have hI1 := ints_ok p.chosen [0, 1] (by rw [hp]; decide) (by decide)
  have hI2 := ints_ok q.chosen [0, 2] (by rw [hqc]; decide) (by decide)
  rw [decide_eq_true hp] at hI1
  rw [decide_eq_true hqc] at hI2
  refine good_of mixed tabOk Try.func22 rfl rfl Try.ntmps22 Try.results22 rfl rfl ?_
  (conv => whnf); (repeat' (first | (refine arith_i ⟨by omega, by omega⟩ ?_; conv => whnf) | (refine arith_u ⟨by omega, by omega⟩ ?_; conv => whnf) | (refine arith_8 ⟨by omega, by omega⟩ ?_; conv => whnf) | (refine need_i (by first | omega | (simp only [List.length_cons, List.length_nil]; omega) | (simp only [List.length_append, List.length_cons, List.length_nil, List.length_map, List.length_replicate, List.length_modify]; omega)) ?_; conv => whnf) | ((with_reducible refine branch_tt ?_); conv => whnf) | ((with_reducible refine branch_ff ?_); conv => whnf) | (with_reducible refine branch_not ?_) | ((refine call_e hA ?_); conv => whnf) | ((refine call_e hB ?_); conv => whnf) | ((refine call_e hI1 ?_); conv => whnf) | ((refine call_e hI2 ?_); conv => whnf) | ((refine idx_i (cs := encPl p) (by omega) rfl ?_); conv => whnf) | ((refine idx_i (cs := encPl q) (by omega) rfl ?_); conv => whnf) | ((with_reducible refine slc_e ?_); conv => whnf) | ((with_reducible refine callS_a ?_); conv => whnf) | ((with_reducible refine bld_a ?_); conv => whnf) | ((with_reducible refine own_e ?_); conv => whnf) | ((with_reducible refine mkmap_b ?_); conv => whnf) | ((with_reducible refine branch_d (fun hq => ?_) (fun hq => ?_)) <;> (try (exfalso; omega)) <;> (conv => whnf)) | ((with_reducible refine branch_e (fun hq => ?_) (fun hq => ?_)) <;> (try (exfalso; omega)) <;> (conv => whnf)) | ((with_reducible refine branch_n (fun hq => ?_) (fun hq => ?_)) <;> (try (exfalso; omega)) <;> (conv => whnf)) | ((with_reducible refine branch_i (fun hq => ?_) (fun hq => ?_)) <;> (try (exfalso; omega)) <;> (conv => whnf))))
  all_goals first
    | exact ret_p rfl rfl
    | (exfalso; exact absurd rfl hq)
end Go.Proofs.Ytiionjpinainlaa
end

/- Layer 11: the law ParallelPapers. -/
section
namespace Go.Proofs.Ytiionjpinainlaa
set_option linter.unusedVariables false
set_option linter.unusedSimpArgs false
set_option linter.unnecessarySimpa false
set_option linter.unusedSectionVars false
set_option maxRecDepth 10000
open Go.RowKit
def plGL11v_0 : Plan := (.take 0 (.take 1 (.take 2 (.take 3 (.take 4 (.take 5 (.take 6 (.take 7 (.take 8 (.take 9 (.take 10 .done)))))))))))
def plGL11v_1 : Plan := (.take 0 (.take 1 (.take 2 (.take 3 (.take 5 (.take 6 (.take 7 (.take 8 (.alt 4 (.alt 9 (.take 10 .done) .stop) (.alt 9 (.alt 4 (.take 10 .done) .stop) .stop))))))))))
def plGL11v_2 : Plan := (.take 0 (.take 2 (.take 5 (.take 7 (.alt 1 (.take 3 (.alt 4 (.alt 6 (.take 8 (.alt 9 (.take 10 .done) .stop)) .stop) (.alt 6 (.take 8 (.alt 4 (.alt 9 (.take 10 .done) .stop) (.alt 9 (.alt 4 (.take 10 .done) .stop) .stop))) .stop))) (.alt 6 (.take 8 (.alt 1 (.take 3 (.alt 4 (.alt 9 (.take 10 .done) .stop) (.alt 9 (.alt 4 (.take 10 .done) .stop) .stop))) (.alt 9 (.alt 1 (.take 3 (.alt 4 (.take 10 .done) .stop)) .stop) .stop))) .stop))))))
set_option maxRecDepth 100000 in
theorem eq_part (p : Prt) (w : World) : (Op.equalIn 10000 72 (.agg [Value.int .i64 p.kind, .int .i64 p.max, .int .i64 p.topic, .int .i64 p.obj, .int .i64 p.opts, .int .i64 p.key].toArray) (.agg [Value.int .i64 p.kind, .int .i64 p.max, .int .i64 p.topic, .int .i64 p.obj, .int .i64 p.opts, .int .i64 p.key].toArray)).run Try.prog w = .ok true w := by
  have u3 := Try.underlying3
  have a3 := Try.isAgg3
  have z3 := Try.sizeOf3
  have hS : Try.prog.underlying 72 = some (.struct (Try.prog.fieldsOf 72)) := by kernel_rfl
  have hp : Try.prog.stoodInHeld 72 = false := by kernel_rfl
  rw [show (10000 : Nat) = 9999 + 1 from rfl, run_equalIn_agg w 9999 72 _ _ hS hp]
  simp only [Program.fieldsOf, Try.underlying72]
  go_simp
theorem guard_part : Try.prog.eqGuardType Try.prog.depth 72 = false := by kernel_rfl
set_option maxHeartbeats 4000000 in
theorem samePapers_ok (code var : Int) (ps : List Prt) (hl : ps.length ≤ 1000000) : Good Try.prog TT false 28 [papV code var ps, papV code var ps] (· = .bool true) := by
  have L : (ps.map encPt).length = ps.length := List.length_map ..
  refine good_of mixed tabOk Try.func28 rfl rfl Try.ntmps28 Try.results28 rfl rfl ?_
  (conv => whnf); (repeat' (first | (refine arith_i ⟨by omega, by omega⟩ ?_; conv => whnf) | (refine arith_u ⟨by omega, by omega⟩ ?_; conv => whnf) | (refine arith_8 ⟨by omega, by omega⟩ ?_; conv => whnf) | (refine need_i (by first | omega | (simp only [List.length_cons, List.length_nil]; omega) | (simp only [List.length_append, List.length_cons, List.length_nil, List.length_map, List.length_replicate, List.length_modify]; omega)) ?_; conv => whnf) | ((with_reducible refine branch_tt ?_); conv => whnf) | ((with_reducible refine branch_ff ?_); conv => whnf) | (with_reducible refine branch_not ?_) | ((with_reducible refine slc_e ?_); conv => whnf) | ((with_reducible refine callS_a ?_); conv => whnf) | ((with_reducible refine bld_a ?_); conv => whnf) | ((with_reducible refine own_e ?_); conv => whnf) | ((with_reducible refine mkmap_b ?_); conv => whnf) | (refine draw_i 11 plGL11v_0 (by decide +kernel) ?_; (conv => whnf); fail_if_success (guard_target =~ False)) | (refine draw_i 11 plGL11v_1 (by decide +kernel) ?_; (conv => whnf); fail_if_success (guard_target =~ False)) | (refine draw_i 11 plGL11v_2 (by decide +kernel) ?_; (conv => whnf); fail_if_success (guard_target =~ False)) | ((with_reducible refine And.intro ?_ ?_) <;> (conv => whnf)) | (with_reducible exact trivial) | ((with_reducible refine branch_d (fun hq => ?_) (fun hq => ?_)) <;> (try (exfalso; omega)) <;> (conv => whnf)) | ((with_reducible refine branch_e (fun hq => ?_) (fun hq => ?_)) <;> (try (exfalso; omega)) <;> (conv => whnf)) | ((with_reducible refine branch_n (fun hq => ?_) (fun hq => ?_)) <;> (try (exfalso; omega)) <;> (conv => whnf)) | ((with_reducible refine branch_i (fun hq => ?_) (fun hq => ?_)) <;> (try (exfalso; omega)) <;> (conv => whnf))))
  · refine loop_i (fun k : Nat => k ≤ ps.length) (fun k => mkSt [(2, .ptr 2 0), (3, .ptr 3 0), (5, .int .i64 k)] [(2, [.int .i64 code, .int .i64 var, .lst 6 (ps.map encPt)]), (3, [.int .i64 code, .int .i64 var, .lst 6 (ps.map encPt)])] false) (fun k => ps.length - k) 0 (Nat.zero_le _) (le_mk (by repeat' (first | exact trivial | rfl | apply And.intro)) (by repeat' (first | exact trivial | rfl | apply And.intro)) rfl) ?_
    intro k hk
    (conv => whnf); (repeat' (first | (refine arith_i ⟨by omega, by omega⟩ ?_; conv => whnf) | (refine arith_u ⟨by omega, by omega⟩ ?_; conv => whnf) | (refine arith_8 ⟨by omega, by omega⟩ ?_; conv => whnf) | (refine need_i (by first | omega | (simp only [List.length_cons, List.length_nil]; omega) | (simp only [List.length_append, List.length_cons, List.length_nil, List.length_map, List.length_replicate, List.length_modify]; omega)) ?_; conv => whnf) | ((with_reducible refine branch_tt ?_); conv => whnf) | ((with_reducible refine branch_ff ?_); conv => whnf) | (with_reducible refine branch_not ?_) | ((refine draw_i 11 (.take 0 (.take 1 (.take 2 (.take 3 (.take 4 (.take 5 (.take 6 (.take 7 (.take 8 (.take 9 (.alt 10 .done .stop))))))))))) (by decide +kernel) ?_); conv => whnf) | ((((with_reducible refine And.intro ?_ ?_) <;> (conv => whnf))); conv => whnf) | (((with_reducible exact trivial)); conv => whnf) | ((refine idx_cs (by assumption) ?_); conv => whnf) | (((refine idx_c (xs := ps) (by omega) fun p hp => ?_)); conv => whnf) | ((refine eq_i guard_part (fun w => eq_part p w) ?_); conv => whnf) | ((with_reducible refine slc_e ?_); conv => whnf) | ((with_reducible refine callS_a ?_); conv => whnf) | ((with_reducible refine bld_a ?_); conv => whnf) | ((with_reducible refine own_e ?_); conv => whnf) | ((with_reducible refine mkmap_b ?_); conv => whnf) | (refine draw_i 11 plGL11v_0 (by decide +kernel) ?_; (conv => whnf); fail_if_success (guard_target =~ False)) | (refine draw_i 11 plGL11v_1 (by decide +kernel) ?_; (conv => whnf); fail_if_success (guard_target =~ False)) | (refine draw_i 11 plGL11v_2 (by decide +kernel) ?_; (conv => whnf); fail_if_success (guard_target =~ False)) | ((with_reducible refine And.intro ?_ ?_) <;> (conv => whnf)) | (with_reducible exact trivial) | ((with_reducible refine branch_d (fun hq => ?_) (fun hq => ?_)) <;> (try (exfalso; omega)) <;> (conv => whnf)) | ((with_reducible refine branch_e (fun hq => ?_) (fun hq => ?_)) <;> (try (exfalso; omega)) <;> (conv => whnf)) | ((with_reducible refine branch_n (fun hq => ?_) (fun hq => ?_)) <;> (try (exfalso; omega)) <;> (conv => whnf)) | ((with_reducible refine branch_i (fun hq => ?_) (fun hq => ?_)) <;> (try (exfalso; omega)) <;> (conv => whnf))))
    all_goals first
      | exact ret_p rfl rfl
      | exact ⟨k + 1, by omega, (le_mk (by repeat' (first | exact trivial | rfl | apply And.intro)) (by repeat' (first | exact trivial | rfl | apply And.intro)) rfl), by omega⟩
      | (exfalso; exact absurd hq (by decide))
theorem paper_at {items : List Itm} {ch : List Int} {code var : Int} {es : List (List AV)} (he : items.map encX = es) {c v : Int} {ps : List Prt} (h : papR items ch code var = .tup [papV c v ps, .int .i64 (papE items ch code var)]) (hi : items.length ≤ 100) (hs : ∀ x ∈ items, ItmS x) (hc : ch.length ≤ 9223372036854775807) : Good Try.prog TT false 26 [.lst 5 es, ints ch, .int .i64 code, .int .i64 var] (· = .tup [papV c v ps, .int .i64 (papE items ch code var)]) ∧ Good Try.prog TT false 27 [.lst 5 es, ints ch, .int .i64 code, .int .i64 var] (· = .tup [papV c v ps, .int .i64 (papE items ch code var)]) := by
  subst he
  exact ⟨(paper_ok items ch code var hi hs hc).mono fun r e => e.trans h, (rPap_ok items ch code var hi hs hc).mono fun r e => e.trans h⟩
theorem prts_small {items : List Itm} {ch : List Int} (hi : items.length ≤ 100) (hs : ∀ x ∈ items, ItmS x) (h : choiceB ch items.length = true) : (prtsOf (chosenF items ch)).length ≤ 100000 := by
  have LF : (chosenF items ch).length = ch.length := by simp [chosenF]
  have hcl := choice_len h
  have := prts_len (l := chosenF items ch) fun x hx => by
    obtain ⟨i, hi'⟩ := List.getElem?_of_mem hx
    have hil : i < ch.length := by have := (List.getElem?_eq_some_iff.1 hi').1; omega
    obtain ⟨c, hcc⟩ : ∃ c, ch[i]? = some c := ⟨_, List.getElem?_eq_getElem hil⟩
    have hcb := choice_elt h hcc
    obtain ⟨y, hy⟩ : ∃ y, items[c.toNat]? = some y := ⟨_, List.getElem?_eq_getElem (by omega)⟩
    rw [chosen_at hcc hy] at hi'
    injection hi' with hi'
    subst hi'
    exact (hs y (List.mem_of_getElem? hy)).2.1
  omega
def papC (items : List Itm) (ch : List Int) (code var : Int) : Int := if papE items ch code var = 0 then code else 0
def papVr (items : List Itm) (ch : List Int) (code var : Int) : Int := if papE items ch code var = 0 then var else 0
def papPs (items : List Itm) (ch : List Int) (code var : Int) : List Prt := if papE items ch code var = 0 then prtsOf (chosenF items ch) else []
theorem papR_is (items : List Itm) (ch : List Int) (code var : Int) : papR items ch code var = .tup [papV (papC items ch code var) (papVr items ch code var) (papPs items ch code var), .int .i64 (papE items ch code var)] := by
  unfold papR papC papVr papPs
  by_cases h : papE items ch code var = 0
  · rw [if_pos h, if_pos h, if_pos h, if_pos h]
  · rw [if_neg h, if_neg h, if_neg h, if_neg h]
theorem papPs_len {items : List Itm} {ch : List Int} {code var : Int} (hi : items.length ≤ 100) (hs : ∀ x ∈ items, ItmS x) : (papPs items ch code var).length ≤ 1000000 := by
  unfold papPs
  split
  · next h =>
    have hc : choiceB ch items.length = true := by
      unfold papE at h
      split at h
      · cases h
      · next hn => simpa using hn
    have := prts_small hi hs hc
    omega
  · simp
theorem paperP_at {items : List Itm} {ch : List Int} {code var : Int} {es : List (List AV)} (he : items.map encX = es) (hi : items.length ≤ 100) (hs : ∀ x ∈ items, ItmS x) (hc : ch.length ≤ 9223372036854775807) : Good Try.prog TT false 26 [.lst 5 es, ints ch, .int .i64 code, .int .i64 var] (· = .tup [papV (papC items ch code var) (papVr items ch code var) (papPs items ch code var), .int .i64 (papE items ch code var)]) := (paper_at he (papR_is items ch code var) hi hs hc).1
theorem rPaperP_at {items : List Itm} {ch : List Int} {code var : Int} {es : List (List AV)} (he : items.map encX = es) (hi : items.length ≤ 100) (hs : ∀ x ∈ items, ItmS x) (hc : ch.length ≤ 9223372036854775807) : Good Try.prog TT false 27 [.lst 5 es, ints ch, .int .i64 code, .int .i64 var] (· = .tup [papV (papC items ch code var) (papVr items ch code var) (papPs items ch code var), .int .i64 (papE items ch code var)]) := (paper_at he (papR_is items ch code var) hi hs hc).2
theorem itmS_snoc11 {l : List Itm} {x : Itm} (h : ∀ y ∈ l, ItmS y ∧ itemF y = 0) (hx : ItmS x) : ∀ y ∈ l ++ [x], ItmS y := fun y hy => by
  rcases List.mem_append.1 hy with hy | hy
  · exact (h y hy).1
  · rw [List.mem_singleton.1 hy]; exact hx
theorem map_snoc11 {l : List Itm} {x : Itm} : (l ++ [x]).map encX = l.map encX ++ [encX x] := by simp
set_option maxHeartbeats 8000000 in
theorem papers_law (xs ch : List Int) (code var : Int) (hx : xs.length ≤ 9223372036854775807) (hch : ch.length ≤ 9223372036854775807) : Good Try.prog TT false 6 [ints xs, ints ch, .int .i64 code, .int .i64 var] (· = .bool true) := by
  have LC : (ch.map encI).length = ch.length := List.length_map ..
  refine good_of mixed tabOk Try.func6 rfl rfl Try.ntmps6 Try.results6 rfl rfl ?_
  (conv => whnf); (repeat' (first | (refine arith_i ⟨by omega, by omega⟩ ?_; conv => whnf) | (refine arith_u ⟨by omega, by omega⟩ ?_; conv => whnf) | (refine arith_8 ⟨by omega, by omega⟩ ?_; conv => whnf) | (refine need_i (by first | omega | (simp only [List.length_cons, List.length_nil]; omega) | (simp only [List.length_append, List.length_cons, List.length_nil, List.length_map, List.length_replicate, List.length_modify]; omega)) ?_; conv => whnf) | ((with_reducible refine branch_tt ?_); conv => whnf) | ((with_reducible refine branch_ff ?_); conv => whnf) | (with_reducible refine branch_not ?_) | ((refine call_e (new_ok xs hx) ?_); conv => whnf) | (((refine call_i (items_ok 6 (by omega)) fun r hr => ?_; obtain ⟨l, rfl, hl, hg⟩ := hr; have LL : (l.map encX).length = l.length := List.length_map ..)); conv => whnf) | (((refine call_i (one_ok _ (by omega)) fun r hr => ?_; obtain ⟨b1, rfl⟩ := hr)); conv => whnf) | (((refine call_i (item_ok 9 1 1 (by omega) (by omega)) fun r hr => ?_; obtain ⟨x, rfl, hxg⟩ := hr)); conv => whnf) | (((refine call_i (sorted_ok _ (by first | omega | (simp only [List.length_append, List.length_cons, List.length_nil]; omega))) fun r hr => ?_; obtain ⟨c, rfl, hc⟩ := hr)); conv => whnf) | ((refine call_e (cut_ok _ _ (by omega)) ?_); conv => whnf) | ((with_reducible refine slc_e ?_); conv => whnf) | ((with_reducible refine callS_a ?_); conv => whnf) | ((with_reducible refine bld_a ?_); conv => whnf) | ((with_reducible refine own_e ?_); conv => whnf) | ((with_reducible refine mkmap_b ?_); conv => whnf) | ((with_reducible refine branch_d (fun hq => ?_) (fun hq => ?_)) <;> (try (exfalso; omega)) <;> (conv => whnf)) | ((with_reducible refine branch_e (fun hq => ?_) (fun hq => ?_)) <;> (try (exfalso; omega)) <;> (conv => whnf)) | ((with_reducible refine branch_n (fun hq => ?_) (fun hq => ?_)) <;> (try (exfalso; omega)) <;> (conv => whnf)) | ((with_reducible refine branch_i (fun hq => ?_) (fun hq => ?_)) <;> (try (exfalso; omega)) <;> (conv => whnf))))
  all_goals first
    | (have hL : (l ++ [x]).length ≤ 100 := by simp; omega
       have hS := itmS_snoc11 hg hxg.small
       have hcl : c.length ≤ 9223372036854775807 := by have := hc; simp only [List.length_append, List.length_cons, List.length_nil, List.length_map] at this; omega
       (conv => whnf); (repeat' (first | (refine arith_i ⟨by omega, by omega⟩ ?_; conv => whnf) | (refine arith_u ⟨by omega, by omega⟩ ?_; conv => whnf) | (refine arith_8 ⟨by omega, by omega⟩ ?_; conv => whnf) | (refine need_i (by first | omega | (simp only [List.length_cons, List.length_nil]; omega) | (simp only [List.length_append, List.length_cons, List.length_nil, List.length_map, List.length_replicate, List.length_modify]; omega)) ?_; conv => whnf) | ((with_reducible refine branch_tt ?_); conv => whnf) | ((with_reducible refine branch_ff ?_); conv => whnf) | (with_reducible refine branch_not ?_) | ((refine call_e (paperP_at map_snoc11 hL hS hch) ?_); conv => whnf) | ((refine call_e (rPaperP_at map_snoc11 hL hS hch) ?_); conv => whnf) | ((refine call_e (paperP_at map_snoc11 hL hS hcl) ?_); conv => whnf) | ((refine call_e (rPaperP_at map_snoc11 hL hS hcl) ?_); conv => whnf) | ((refine call_e (samePapers_ok _ _ _ (papPs_len hL hS)) ?_); conv => whnf) | ((refine call_e awake11_ok ?_); conv => whnf) | ((with_reducible refine slc_e ?_); conv => whnf) | ((with_reducible refine callS_a ?_); conv => whnf) | ((with_reducible refine bld_a ?_); conv => whnf) | ((with_reducible refine own_e ?_); conv => whnf) | ((with_reducible refine mkmap_b ?_); conv => whnf) | ((with_reducible refine branch_d (fun hq => ?_) (fun hq => ?_)) <;> (try (exfalso; omega)) <;> (conv => whnf)) | ((with_reducible refine branch_e (fun hq => ?_) (fun hq => ?_)) <;> (try (exfalso; omega)) <;> (conv => whnf)) | ((with_reducible refine branch_n (fun hq => ?_) (fun hq => ?_)) <;> (try (exfalso; omega)) <;> (conv => whnf)) | ((with_reducible refine branch_i (fun hq => ?_) (fun hq => ?_)) <;> (try (exfalso; omega)) <;> (conv => whnf)))))
    | (have hL : l.length ≤ 100 := by omega
       have hS : ∀ y ∈ l, ItmS y := fun y hy => (hg y hy).1
       have hcl : c.length ≤ 9223372036854775807 := by omega
       (conv => whnf); (repeat' (first | (refine arith_i ⟨by omega, by omega⟩ ?_; conv => whnf) | (refine arith_u ⟨by omega, by omega⟩ ?_; conv => whnf) | (refine arith_8 ⟨by omega, by omega⟩ ?_; conv => whnf) | (refine need_i (by first | omega | (simp only [List.length_cons, List.length_nil]; omega) | (simp only [List.length_append, List.length_cons, List.length_nil, List.length_map, List.length_replicate, List.length_modify]; omega)) ?_; conv => whnf) | ((with_reducible refine branch_tt ?_); conv => whnf) | ((with_reducible refine branch_ff ?_); conv => whnf) | (with_reducible refine branch_not ?_) | ((refine call_e (paperP_at rfl hL hS hch) ?_); conv => whnf) | ((refine call_e (rPaperP_at rfl hL hS hch) ?_); conv => whnf) | ((refine call_e (paperP_at rfl hL hS hcl) ?_); conv => whnf) | ((refine call_e (rPaperP_at rfl hL hS hcl) ?_); conv => whnf) | ((refine call_e (samePapers_ok _ _ _ (papPs_len hL hS)) ?_); conv => whnf) | ((refine call_e awake11_ok ?_); conv => whnf) | ((with_reducible refine slc_e ?_); conv => whnf) | ((with_reducible refine callS_a ?_); conv => whnf) | ((with_reducible refine bld_a ?_); conv => whnf) | ((with_reducible refine own_e ?_); conv => whnf) | ((with_reducible refine mkmap_b ?_); conv => whnf) | ((with_reducible refine branch_d (fun hq => ?_) (fun hq => ?_)) <;> (try (exfalso; omega)) <;> (conv => whnf)) | ((with_reducible refine branch_e (fun hq => ?_) (fun hq => ?_)) <;> (try (exfalso; omega)) <;> (conv => whnf)) | ((with_reducible refine branch_n (fun hq => ?_) (fun hq => ?_)) <;> (try (exfalso; omega)) <;> (conv => whnf)) | ((with_reducible refine branch_i (fun hq => ?_) (fun hq => ?_)) <;> (try (exfalso; omega)) <;> (conv => whnf)))))
  all_goals first
    | exact ret_p rfl rfl
    | (exfalso; exact hq rfl)
end Go.Proofs.Ytiionjpinainlaa
end

/- Layer 11: Common, of the program and of the reference. -/
section
namespace Go.Proofs.Ytiionjpinainlaa
set_option linter.unusedVariables false
set_option linter.unusedSimpArgs false
set_option linter.unnecessarySimpa false
set_option linter.unusedSectionVars false
set_option maxRecDepth 10000
open Go.RowKit
/-- A choice of valid items. -/
def okIB (items : List Itm) (ch : List Int) : Bool := choiceB ch items.length && (chosenF items ch).all fun x => decide (itemF x = 0)
def offAt (items : List Itm) (ch : List Int) (k : Nat) : Int := ((prtsOf ((chosenF items ch).take k)).length : Int)
def offL (items : List Itm) (ch : List Int) : List Int := (List.range ch.length).map (offAt items ch)
theorem offAt_next {items : List Itm} {ch : List Int} {k : Nat} {x : Itm} (h : (chosenF items ch)[k]? = some x) : offAt items ch (k + 1) = offAt items ch k + x.parts.length := by
  unfold offAt; rw [prts_next h, List.length_append]; omega
theorem okI_bad {items : List Itm} {ch : List Int} {k : Nat} {x : Itm} (hx : (chosenF items ch)[k]? = some x) (he : itemF x ≠ 0) : okIB items ch = false := by
  rw [okIB, all_bad hx (decide_eq_false he)]; simp
theorem okI_good {items : List Itm} {ch : List Int} (h3 : choiceB ch items.length = true) (hx : ∀ i x, i < ch.length → (chosenF items ch)[i]? = some x → itemF x = 0) : okIB items ch = true := by
  have LF : (chosenF items ch).length = ch.length := by simp [chosenF]
  rw [okIB, h3, all_goodL (k := ch.length) (by omega) fun i x hi hh => decide_eq_true (hx i x hi hh)]
  rfl
theorem off_in {items : List Itm} {ch : List Int} {k : Nat} (hs : ∀ x ∈ items, ItmS x) (hch : choiceB ch items.length = true) (hk : k ≤ ch.length) : 0 ≤ offAt items ch k ∧ offAt items ch k ≤ 1000 * k := by
  have LF : (chosenF items ch).length = ch.length := by simp [chosenF]
  have := prts_len (l := (chosenF items ch).take k) fun x hx => by
    obtain ⟨i, hi'⟩ := List.getElem?_of_mem hx
    rw [List.getElem?_take] at hi'
    split at hi'
    · next h =>
      obtain ⟨c, hcc⟩ : ∃ c, ch[i]? = some c := ⟨_, List.getElem?_eq_getElem (by omega)⟩
      have hcb := choice_elt hch hcc
      obtain ⟨y, hy⟩ : ∃ y, items[c.toNat]? = some y := ⟨_, List.getElem?_eq_getElem (by omega)⟩
      rw [chosen_at hcc hy] at hi'
      injection hi' with hi'
      subst hi'
      exact (hs y (List.mem_of_getElem? hy)).2.1
    · cases hi'
  have hlt : ((chosenF items ch).take k).length = k := by simp; omega
  rw [hlt] at this
  unfold offAt
  omega
def offTo (items : List Itm) (ch : List Int) (k : Nat) : List Int := (List.range k).map (offAt items ch)
theorem offTo_next {items : List Itm} {ch : List Int} {k : Nat} : (offTo items ch (k + 1)).map encI = (offTo items ch k).map encI ++ [[.int .i64 (offAt items ch k)]] := by
  unfold offTo; rw [List.range_succ, List.map_append, List.map_append]; rfl
set_option maxHeartbeats 4000000 in
theorem offsets_ok (items : List Itm) (ch : List Int) (hi : items.length ≤ 100) (hs : ∀ x ∈ items, ItmS x) (hc : ch.length ≤ 9223372036854775807) : Good Try.prog TT false 58 [itmsV items, ints ch] (· = .tup [ints (if okIB items ch = true then offL items ch else []), .bool (okIB items ch)]) := by
  have LI : (items.map encX).length = items.length := List.length_map ..
  have LH : (ch.map encI).length = ch.length := List.length_map ..
  have bad : okIB items ch = false → aret (.tup [.nil, .bool false]) (· = .tup [ints (if okIB items ch = true then offL items ch else []), .bool (okIB items ch)]) := fun h =>
    ret_t (rs := [ints [], .bool false]) ⟨rc_n.g, (rc_p rfl).g, trivial⟩ (by rw [h]; rfl)
  refine good_of mixed tabOk Try.func58 rfl rfl Try.ntmps58 Try.results58 rfl rfl ?_
  (conv => whnf); (repeat' (first | (refine arith_i ⟨by omega, by omega⟩ ?_; conv => whnf) | (refine arith_u ⟨by omega, by omega⟩ ?_; conv => whnf) | (refine arith_8 ⟨by omega, by omega⟩ ?_; conv => whnf) | (refine need_i (by first | omega | (simp only [List.length_cons, List.length_nil]; omega) | (simp only [List.length_append, List.length_cons, List.length_nil, List.length_map, List.length_replicate, List.length_modify]; omega)) ?_; conv => whnf) | ((with_reducible refine branch_tt ?_); conv => whnf) | ((with_reducible refine branch_ff ?_); conv => whnf) | (with_reducible refine branch_not ?_) | (((rw [LI]; refine call_e (pChoice_any ch items.length hc (by omega)) ?_)); conv => whnf) | ((with_reducible refine slc_e ?_); conv => whnf) | ((with_reducible refine callS_a ?_); conv => whnf) | ((with_reducible refine bld_a ?_); conv => whnf) | ((with_reducible refine own_e ?_); conv => whnf) | ((with_reducible refine mkmap_b ?_); conv => whnf) | ((with_reducible refine branch_d (fun hq => ?_) (fun hq => ?_)) <;> (try (exfalso; omega)) <;> (conv => whnf)) | ((with_reducible refine branch_e (fun hq => ?_) (fun hq => ?_)) <;> (try (exfalso; omega)) <;> (conv => whnf)) | ((with_reducible refine branch_n (fun hq => ?_) (fun hq => ?_)) <;> (try (exfalso; omega)) <;> (conv => whnf)) | ((with_reducible refine branch_i (fun hq => ?_) (fun hq => ?_)) <;> (try (exfalso; omega)) <;> (conv => whnf))))
  all_goals try exact bad (by rw [okIB, hq]; rfl)
  have hch : choiceB ch items.length = true := by assumption
  have hcl := choice_len hch
  refine loop_i (fun k : Nat => k ≤ ch.length ∧ ∀ i x, i < k → (chosenF items ch)[i]? = some x → itemF x = 0) (fun k => mkSt [(0, itmsV items), (6, .own 900 3 1 ((offTo items ch k).map encI)), (7, .int .i64 (offAt items ch k)), (15, ints ch), (16, .int .i64 (ch.map encI).length), (17, .int .i64 k)] [] false) (fun k => ch.length - k) 0 ⟨Nat.zero_le _, nofun⟩ (Le.trans (le_adopt 6 900 3 1 rfl) (le_mk (by repeat' (first | exact trivial | rfl | apply And.intro)) (by repeat' (first | exact trivial | rfl | apply And.intro)) rfl)) ?_
  rintro k ⟨hk, hall⟩
  have hof := off_in hs hch hk
  have LO : ((offTo items ch k).map encI).length = k := by simp [offTo]
  (conv => whnf); (repeat' (first | (refine arith_i ⟨by omega, by omega⟩ ?_; conv => whnf) | (refine arith_u ⟨by omega, by omega⟩ ?_; conv => whnf) | (refine arith_8 ⟨by omega, by omega⟩ ?_; conv => whnf) | (refine need_i (by first | omega | (simp only [List.length_cons, List.length_nil]; omega) | (simp only [List.length_append, List.length_cons, List.length_nil, List.length_map, List.length_replicate, List.length_modify]; omega)) ?_; conv => whnf) | ((with_reducible refine branch_tt ?_); conv => whnf) | ((with_reducible refine branch_ff ?_); conv => whnf) | (with_reducible refine branch_not ?_) | (((refine idx_c (xs := ch) (by omega) fun c hcc => ?_; have hcb := choice_elt hch hcc)); conv => whnf) | ((refine idx_ms (by omega) (by assumption) ?_); conv => whnf) | (((refine idx_m (xs := items) (by omega) (by omega) fun x hx => ?_; have hxs := hs x (List.mem_of_getElem? hx); have hxk := chosen_at hcc hx; have LX : (x.parts.map encPt).length = x.parts.length := (List.length_map ..); have hxp := hxs.2.1)); conv => whnf) | ((refine call_e (iCheck_ok x (by have := hxs.1; omega) (by have := hxs.2.1; omega) (by have := hxs.2.2; omega)) ?_); conv => whnf) | ((with_reducible refine slc_e ?_); conv => whnf) | ((with_reducible refine callS_a ?_); conv => whnf) | ((with_reducible refine bld_a ?_); conv => whnf) | ((with_reducible refine own_e ?_); conv => whnf) | ((with_reducible refine mkmap_b ?_); conv => whnf) | ((with_reducible refine branch_d (fun hq => ?_) (fun hq => ?_)) <;> (try (exfalso; omega)) <;> (conv => whnf)) | ((with_reducible refine branch_e (fun hq => ?_) (fun hq => ?_)) <;> (try (exfalso; omega)) <;> (conv => whnf)) | ((with_reducible refine branch_n (fun hq => ?_) (fun hq => ?_)) <;> (try (exfalso; omega)) <;> (conv => whnf)) | ((with_reducible refine branch_i (fun hq => ?_) (fun hq => ?_)) <;> (try (exfalso; omega)) <;> (conv => whnf))))
  · exact bad (okI_bad hxk (by assumption))
  · refine ⟨k + 1, ⟨by omega, fun i y hiy hy => ?_⟩, le_mk ⟨rfl, congrArg (AV.own 900 3 1) offTo_next.symm, int_eq (by rw [offAt_next hxk, LX]), rfl, rfl, rfl, trivial⟩ trivial rfl, by omega⟩
    by_cases e : i = k
    · subst e
      rw [hxk] at hy
      injection hy with hy
      subst hy
      omega
    · exact hall i y (by omega) hy
  · have hkk : k = ch.length := by omega
    have hok := okI_good hch fun i x hi => hall i x (by omega)
    refine ret_t (rs := [ints (offL items ch), .bool true]) ⟨(rc_o' (by rw [hkk]; rfl)).g, (rc_p rfl).g, trivial⟩ (by rw [hok]; rfl)
set_option maxHeartbeats 4000000 in
theorem rValid11_ok (items : List Itm) (ch : List Int) (hi : items.length ≤ 100) (hs : ∀ x ∈ items, ItmS x) (hc : ch.length ≤ 9223372036854775807) : Good Try.prog TT false 59 [itmsV items, ints ch] (· = .bool (okIB items ch)) := by
  have LI : (items.map encX).length = items.length := List.length_map ..
  have LH : (ch.map encI).length = ch.length := List.length_map ..
  refine good_of mixed tabOk Try.func59 rfl rfl Try.ntmps59 Try.results59 rfl rfl ?_
  (conv => whnf); (repeat' (first | (refine arith_i ⟨by omega, by omega⟩ ?_; conv => whnf) | (refine arith_u ⟨by omega, by omega⟩ ?_; conv => whnf) | (refine arith_8 ⟨by omega, by omega⟩ ?_; conv => whnf) | (refine need_i (by first | omega | (simp only [List.length_cons, List.length_nil]; omega) | (simp only [List.length_append, List.length_cons, List.length_nil, List.length_map, List.length_replicate, List.length_modify]; omega)) ?_; conv => whnf) | ((with_reducible refine branch_tt ?_); conv => whnf) | ((with_reducible refine branch_ff ?_); conv => whnf) | (with_reducible refine branch_not ?_) | (((rw [LI]; refine call_e (rChoice_any ch items.length hc (by omega)) ?_)); conv => whnf) | ((with_reducible refine slc_e ?_); conv => whnf) | ((with_reducible refine callS_a ?_); conv => whnf) | ((with_reducible refine bld_a ?_); conv => whnf) | ((with_reducible refine own_e ?_); conv => whnf) | ((with_reducible refine mkmap_b ?_); conv => whnf) | ((with_reducible refine branch_d (fun hq => ?_) (fun hq => ?_)) <;> (try (exfalso; omega)) <;> (conv => whnf)) | ((with_reducible refine branch_e (fun hq => ?_) (fun hq => ?_)) <;> (try (exfalso; omega)) <;> (conv => whnf)) | ((with_reducible refine branch_n (fun hq => ?_) (fun hq => ?_)) <;> (try (exfalso; omega)) <;> (conv => whnf)) | ((with_reducible refine branch_i (fun hq => ?_) (fun hq => ?_)) <;> (try (exfalso; omega)) <;> (conv => whnf))))
  all_goals try exact ret_p rfl (bool_eq (by rw [okIB, hq]; rfl))
  have hch : choiceB ch items.length = true := by assumption
  have hcl := choice_len hch
  refine loop_i (fun k : Nat => k ≤ ch.length ∧ ∀ i x, i < k → (chosenF items ch)[i]? = some x → itemF x = 0) (fun k => mkSt [(0, itmsV items), (1, ints ch), (5, .int .i64 k)] [] false) (fun k => ch.length - k) 0 ⟨Nat.zero_le _, nofun⟩ (le_mk (by repeat' (first | exact trivial | rfl | apply And.intro)) (by repeat' (first | exact trivial | rfl | apply And.intro)) rfl) ?_
  rintro k ⟨hk, hall⟩
  (conv => whnf); (repeat' (first | (refine arith_i ⟨by omega, by omega⟩ ?_; conv => whnf) | (refine arith_u ⟨by omega, by omega⟩ ?_; conv => whnf) | (refine arith_8 ⟨by omega, by omega⟩ ?_; conv => whnf) | (refine need_i (by first | omega | (simp only [List.length_cons, List.length_nil]; omega) | (simp only [List.length_append, List.length_cons, List.length_nil, List.length_map, List.length_replicate, List.length_modify]; omega)) ?_; conv => whnf) | ((with_reducible refine branch_tt ?_); conv => whnf) | ((with_reducible refine branch_ff ?_); conv => whnf) | (with_reducible refine branch_not ?_) | (((refine idx_c (xs := ch) (by omega) fun c hcc => ?_; have hcb := choice_elt hch hcc)); conv => whnf) | ((refine idx_ms (by omega) (by assumption) ?_); conv => whnf) | (((refine idx_m (xs := items) (by omega) (by omega) fun x hx => ?_; have hxs := hs x (List.mem_of_getElem? hx); have hxk := chosen_at hcc hx)); conv => whnf) | ((refine call_e (rICheck_ok x (by have := hxs.1; omega) (by have := hxs.2.1; omega) (by have := hxs.2.2; omega)) ?_); conv => whnf) | ((with_reducible refine slc_e ?_); conv => whnf) | ((with_reducible refine callS_a ?_); conv => whnf) | ((with_reducible refine bld_a ?_); conv => whnf) | ((with_reducible refine own_e ?_); conv => whnf) | ((with_reducible refine mkmap_b ?_); conv => whnf) | ((with_reducible refine branch_d (fun hq => ?_) (fun hq => ?_)) <;> (try (exfalso; omega)) <;> (conv => whnf)) | ((with_reducible refine branch_e (fun hq => ?_) (fun hq => ?_)) <;> (try (exfalso; omega)) <;> (conv => whnf)) | ((with_reducible refine branch_n (fun hq => ?_) (fun hq => ?_)) <;> (try (exfalso; omega)) <;> (conv => whnf)) | ((with_reducible refine branch_i (fun hq => ?_) (fun hq => ?_)) <;> (try (exfalso; omega)) <;> (conv => whnf))))
  · exact ret_p rfl (bool_eq (okI_bad hxk (by assumption)).symm)
  · refine ⟨k + 1, ⟨by omega, fun i y hiy hy => ?_⟩, (le_mk (by repeat' (first | exact trivial | rfl | apply And.intro)) (by repeat' (first | exact trivial | rfl | apply And.intro)) rfl), by omega⟩
    by_cases e : i = k
    · subst e
      rw [hxk] at hy
      injection hy with hy
      subst hy
      omega
    · exact hall i y (by omega) hy
  · exact ret_p rfl (bool_eq (okI_good hch fun i x hi => hall i x (by omega)).symm)
theorem choice_lt {ch : List Int} {n i j : Nat} {a b : Int} (h : choiceB ch n = true) (hi : ch[i]? = some a) (hj : ch[j]? = some b) (hij : i < j) : a < b := by
  have key : ∀ d, ∀ b, ch[i + 1 + d]? = some b → a < b := by
    intro d
    induction d with
    | zero =>
      intro b hb
      have := ChTo.of_all h (i + 1) (by have := (List.getElem?_eq_some_iff.1 hb).1; omega)
      rw [choiceAt] at this
      have e1 := nth_eq hi
      have e2 := nth_eq hb
      simp at this e2
      rw [e1] at this
      omega
    | succ d ih =>
      intro b hb
      have hlt := (List.getElem?_eq_some_iff.1 hb).1
      obtain ⟨c, hc⟩ : ∃ c, ch[i + 1 + d]? = some c := ⟨_, List.getElem?_eq_getElem (by omega)⟩
      have h1 := ih c hc
      have := ChTo.of_all h (i + 1 + (d + 1)) hlt
      rw [choiceAt] at this
      have e1 := nth_eq hb
      have e2 := nth_eq hc
      have e3 : i + 1 + (d + 1) - 1 = i + 1 + d := by omega
      simp only [e3, e1, e2, Bool.and_eq_true, Bool.or_eq_true, decide_eq_true_eq] at this
      omega
  obtain ⟨d, rfl⟩ : ∃ d, j = i + 1 + d := ⟨j - (i + 1), by omega⟩
  exact key d b hj
set_option maxHeartbeats 4000000 in
theorem rOffset_ok (items : List Itm) (ch : List Int) (a : Int) (m : Nat) (hi : items.length ≤ 100) (hs : ∀ x ∈ items, ItmS x) (hch : choiceB ch items.length = true) (hm : ch[m]? = some a) : Good Try.prog TT false 60 [itmsV items, ints ch, .int .i64 a] (· = .int .i64 (offAt items ch m)) := by
  have LI : (items.map encX).length = items.length := List.length_map ..
  have LH : (ch.map encI).length = ch.length := List.length_map ..
  have hcl := choice_len hch
  have hml := (List.getElem?_eq_some_iff.1 hm).1
  refine good_of mixed tabOk Try.func60 rfl rfl Try.ntmps60 Try.results60 rfl rfl ?_
  (conv => whnf); (repeat' (first | (refine arith_i ⟨by omega, by omega⟩ ?_; conv => whnf) | (refine arith_u ⟨by omega, by omega⟩ ?_; conv => whnf) | (refine arith_8 ⟨by omega, by omega⟩ ?_; conv => whnf) | (refine need_i (by first | omega | (simp only [List.length_cons, List.length_nil]; omega) | (simp only [List.length_append, List.length_cons, List.length_nil, List.length_map, List.length_replicate, List.length_modify]; omega)) ?_; conv => whnf) | ((with_reducible refine branch_tt ?_); conv => whnf) | ((with_reducible refine branch_ff ?_); conv => whnf) | (with_reducible refine branch_not ?_) | ((with_reducible refine slc_e ?_); conv => whnf) | ((with_reducible refine callS_a ?_); conv => whnf) | ((with_reducible refine bld_a ?_); conv => whnf) | ((with_reducible refine own_e ?_); conv => whnf) | ((with_reducible refine mkmap_b ?_); conv => whnf) | ((with_reducible refine branch_d (fun hq => ?_) (fun hq => ?_)) <;> (try (exfalso; omega)) <;> (conv => whnf)) | ((with_reducible refine branch_e (fun hq => ?_) (fun hq => ?_)) <;> (try (exfalso; omega)) <;> (conv => whnf)) | ((with_reducible refine branch_n (fun hq => ?_) (fun hq => ?_)) <;> (try (exfalso; omega)) <;> (conv => whnf)) | ((with_reducible refine branch_i (fun hq => ?_) (fun hq => ?_)) <;> (try (exfalso; omega)) <;> (conv => whnf))))
  refine loop_i (fun k : Nat => k ≤ m) (fun k => mkSt [(0, itmsV items), (1, ints ch), (2, .int .i64 a), (7, .int .i64 (offAt items ch k)), (8, .int .i64 k)] [] false) (fun k => m - k) 0 (Nat.zero_le _) (le_mk (by repeat' (first | exact trivial | rfl | apply And.intro)) (by repeat' (first | exact trivial | rfl | apply And.intro)) rfl) ?_
  intro k hk
  have hof := off_in hs hch (k := k) (by omega)
  (conv => whnf); (repeat' (first | (refine arith_i ⟨by omega, by omega⟩ ?_; conv => whnf) | (refine arith_u ⟨by omega, by omega⟩ ?_; conv => whnf) | (refine arith_8 ⟨by omega, by omega⟩ ?_; conv => whnf) | (refine need_i (by first | omega | (simp only [List.length_cons, List.length_nil]; omega) | (simp only [List.length_append, List.length_cons, List.length_nil, List.length_map, List.length_replicate, List.length_modify]; omega)) ?_; conv => whnf) | ((with_reducible refine branch_tt ?_); conv => whnf) | ((with_reducible refine branch_ff ?_); conv => whnf) | (with_reducible refine branch_not ?_) | ((refine idx_cs (by assumption) ?_); conv => whnf) | (((refine idx_c (xs := ch) (by omega) fun c hcc => ?_; have hcb := choice_elt hch hcc)); conv => whnf) | ((refine idx_ms (by omega) (by assumption) ?_); conv => whnf) | (((refine idx_m (xs := items) (by omega) (by omega) fun x hx => ?_; have hxs := hs x (List.mem_of_getElem? hx); have hxk := chosen_at hcc hx; have LX : (x.parts.map encPt).length = x.parts.length := (List.length_map ..); have hxp := hxs.2.1)); conv => whnf) | ((with_reducible refine slc_e ?_); conv => whnf) | ((with_reducible refine callS_a ?_); conv => whnf) | ((with_reducible refine bld_a ?_); conv => whnf) | ((with_reducible refine own_e ?_); conv => whnf) | ((with_reducible refine mkmap_b ?_); conv => whnf) | ((with_reducible refine branch_d (fun hq => ?_) (fun hq => ?_)) <;> (try (exfalso; omega)) <;> (conv => whnf)) | ((with_reducible refine branch_e (fun hq => ?_) (fun hq => ?_)) <;> (try (exfalso; omega)) <;> (conv => whnf)) | ((with_reducible refine branch_n (fun hq => ?_) (fun hq => ?_)) <;> (try (exfalso; omega)) <;> (conv => whnf)) | ((with_reducible refine branch_i (fun hq => ?_) (fun hq => ?_)) <;> (try (exfalso; omega)) <;> (conv => whnf))))
  · have hne : k ≠ m := fun e => by
      subst e; rw [hm] at hcc; injection hcc with hcc; omega
    exact ⟨k + 1, by omega, le_mk ⟨rfl, rfl, rfl, int_eq (by rw [offAt_next hxk, LX]), rfl, trivial⟩ trivial rfl, by omega⟩
  · have hkm : k = m := by
      rcases Nat.lt_or_ge k m with h | h
      · obtain ⟨c, hcc⟩ : ∃ c, ch[k]? = some c := ⟨_, List.getElem?_eq_getElem (by omega)⟩
        have := choice_lt hch hcc hm h
        simp_all
      · omega
    exact ret_p rfl (by rw [hkm])
end Go.Proofs.Ytiionjpinainlaa
end

/- Layer 11, plainly: what Assemble goes through. -/
section
namespace Go.Proofs.Ytiionjpinainlaa
set_option linter.unusedVariables false
set_option linter.unusedSimpArgs false
set_option linter.unnecessarySimpa false
set_option linter.unusedSectionVars false
set_option maxRecDepth 10000
open Go.RowKit
/-! what the choices satisfy -/
end Go.Proofs.Ytiionjpinainlaa
end

/- Layer 11, plainly: Apart. -/
section
namespace Go.Proofs.Ytiionjpinainlaa
set_option linter.unusedVariables false
set_option linter.unusedSimpArgs false
set_option linter.unnecessarySimpa false
set_option linter.unusedSectionVars false
set_option maxRecDepth 10000
open Go.RowKit
def AptAt (cs : List (List Int)) (an : List Int) (i : Nat) (l : List Int) : Prop := (∀ a ∈ an, a ∈ l) ∧ ∀ k l', k < i → cs[k]? = some l' → ∀ x ∈ l, x ∈ l' → x ∈ an
def AptTo (cs : List (List Int)) (an : List Int) (n : Nat) : Prop := ∀ i l, i < n → cs[i]? = some l → AptAt cs an i l
def Apt (cs : List (List Int)) (an : List Int) : Prop := AptTo cs an cs.length
theorem AptTo.next {cs : List (List Int)} {an : List Int} {i : Nat} {l : List Int} (h : AptTo cs an i) (hl : cs[i]? = some l) (ha : AptAt cs an i l) : AptTo cs an (i + 1) := fun j l' hj hl' => by
  rcases Nat.lt_or_ge j i with h' | h'
  · exact h j l' h' hl'
  · obtain rfl : j = i := by omega
    rw [hl] at hl'; injection hl' with hl'; subst hl'; exact ha
theorem Apt.at {cs : List (List Int)} {an : List Int} {i : Nat} {l : List Int} (h : Apt cs an) (hl : cs[i]? = some l) : AptAt cs an i l := h i l (List.getElem?_eq_some_iff.1 hl).1 hl
/-- A map that holds a set. -/
def SetM (M : List (Int × Bool)) (S : List Int) : Prop := (keysM M).Nodup ∧ ∀ x, mget x M = if x ∈ S then some true else none
theorem SetM.nil : SetM [] [] := ⟨List.nodup_nil, fun x => by simp [mget]⟩
theorem SetM.put {M : List (Int × Bool)} {S : List Int} (h : SetM M S) (y : Int) : SetM (mput y true M) (S ++ [y]) := by
  refine ⟨mput_nodup h.1, fun x => ?_⟩
  rw [mget_mput h.1, h.2 x]
  by_cases e : x = y
  · subst e; simp
  · by_cases hx : x ∈ S <;> simp [e, hx]
theorem SetM.keys {M : List (Int × Bool)} {S : List Int} (h : SetM M S) {x : Int} : x ∈ keysM M ↔ x ∈ S := by
  have h1 := mget_key (n := x) (l := M)
  rw [h.2 x] at h1
  by_cases hx : x ∈ S
  · rw [if_pos hx] at h1
    constructor
    · exact fun _ => hx
    · exact fun _ => Classical.byContradiction fun hn => by have := h1.2 hn; cases this
  · rw [if_neg hx] at h1
    exact ⟨fun hk => absurd hk (h1.1 rfl), fun h => absurd h hx⟩
theorem SetM.get {M : List (Int × Bool)} {S : List Int} (h : SetM M S) (x : Int) : (mget x M).getD false = decide (x ∈ S) := by
  rw [h.2 x]; by_cases hx : x ∈ S <;> simp [hx]
theorem SetM.len {M A : List (Int × Bool)} {S T : List Int} (h : SetM M S) (h' : SetM A T) (hs : ∀ x ∈ S, x ∈ T) : M.length = A.length ↔ ∀ x ∈ T, x ∈ S := by
  have e1 : (keysM M).length = M.length := List.length_map ..
  have e2 : (keysM A).length = A.length := List.length_map ..
  have hle := nodup_le h.1 (b := keysM A) fun x hx => h'.keys.2 (hs x (h.keys.1 hx))
  constructor
  · intro hl x hx
    exact h.keys.1 (nodup_all h.1 (fun x hx => h'.keys.2 (hs x (h.keys.1 hx))) (by omega) x (h'.keys.2 hx))
  · intro hx
    have := nodup_le h'.1 (b := keysM M) fun x hk => h.keys.2 (hx x (h'.keys.1 hk))
    omega
/-- Who has an option that is no anchor: the first i lists, and q options of the next one. -/
def OwnM (cs : List (List Int)) (an : List Int) (i : Nat) (l : List Int) (O : List (Int × Int)) : Prop :=
  (keysM O).Nodup ∧ ∀ x j, mget x O = some j ↔ x ∉ an ∧ ((∃ (k : Nat) (l' : List Int), j = k ∧ k < i ∧ cs[k]? = some l' ∧ x ∈ l') ∨ (j = i ∧ x ∈ l))
theorem OwnM.nil {cs : List (List Int)} {an : List Int} : OwnM cs an 0 [] [] := ⟨List.nodup_nil, fun x j => by simp [mget]⟩
theorem OwnM.next {cs : List (List Int)} {an : List Int} {i : Nat} {l : List Int} {O : List (Int × Int)} (h : OwnM cs an i l O) (hl : cs[i]? = some l) : OwnM cs an (i + 1) [] O := by
  refine ⟨h.1, fun x j => (h.2 x j).trans (and_congr Iff.rfl ?_)⟩
  constructor
  · rintro (⟨k, l', h1, h2, h3, h4⟩ | ⟨h1, h2⟩)
    · exact .inl ⟨k, l', h1, by omega, h3, h4⟩
    · exact .inl ⟨i, l, h1, by omega, hl, h2⟩
  · rintro (⟨k, l', h1, h2, h3, h4⟩ | ⟨h1, h2⟩)
    · rcases Nat.lt_or_ge k i with h' | h'
      · exact .inl ⟨k, l', h1, h', h3, h4⟩
      · obtain rfl : k = i := by omega
        rw [hl] at h3; injection h3 with h3; subst h3
        exact .inr ⟨h1, h4⟩
    · simp at h2
theorem OwnM.put {cs : List (List Int)} {an : List Int} {i : Nat} {l : List Int} {O : List (Int × Int)} {x : Int} (h : OwnM cs an i l O) (hx : x ∉ an) (hn : ∀ k l', k < i → cs[k]? = some l' → x ∉ l') : OwnM cs an i (l ++ [x]) (mput x (i : Int) O) := by
  refine ⟨mput_nodup h.1, fun y j => ?_⟩
  rw [mget_mput h.1]
  by_cases e : y = x
  · subst e
    rw [if_pos rfl]
    constructor
    · intro hj
      injection hj with hj
      exact ⟨hx, .inr ⟨hj.symm, by simp⟩⟩
    · rintro ⟨-, ⟨k, l', h1, h2, h3, h4⟩ | ⟨h1, -⟩⟩
      · exact absurd h4 (hn k l' h2 h3)
      · rw [h1]
  · rw [if_neg e]
    refine (h.2 y j).trans (and_congr Iff.rfl (or_congr Iff.rfl (and_congr Iff.rfl ?_)))
    simp [e]
theorem OwnM.anchor {cs : List (List Int)} {an : List Int} {i : Nat} {l : List Int} {O : List (Int × Int)} {x : Int} (h : OwnM cs an i l O) (hx : x ∈ an) : OwnM cs an i (l ++ [x]) O := by
  refine ⟨h.1, fun y j => (h.2 y j).trans ?_⟩
  constructor
  · rintro ⟨h1, h2⟩
    exact ⟨h1, h2.imp id fun h => ⟨h.1, by simp [h.2]⟩⟩
  · rintro ⟨h1, h2⟩
    refine ⟨h1, h2.imp id fun h => ⟨h.1, ?_⟩⟩
    have := h.2
    simp at this
    rcases this with h' | h'
    · exact h'
    · subst h'; exact absurd hx h1
theorem take_next {l : List Int} {q : Nat} {x : Int} (h : l[q]? = some x) : l.take (q + 1) = l.take q ++ [x] := by rw [List.take_add_one, h]; rfl
/-- The anchors met among the first q. -/
def metL (an l : List Int) : List Int := l.filter fun x => decide (x ∈ an)
theorem metL_in {an l : List Int} {x : Int} (hx : x ∈ an) : metL an (l ++ [x]) = metL an l ++ [x] := by simp [metL, hx]
theorem metL_out {an l : List Int} {x : Int} (hx : x ∉ an) : metL an (l ++ [x]) = metL an l := by simp [metL, hx]
theorem metL_mem {an l : List Int} {x : Int} : x ∈ metL an l ↔ x ∈ l ∧ x ∈ an := by simp [metL]
def AptR (cs : List (List Int)) (an : List Int) (r : AV) : Prop := ∃ b, r = .bool b ∧ (b = true ↔ cs.length < 2 ∨ Apt cs an)
theorem apt_false {cs : List (List Int)} {an : List Int} (h2 : ¬ cs.length < 2) (h : ¬ Apt cs an) : AptR cs an (.bool false) := ⟨false, rfl, by simp [h]; omega⟩
theorem apt_true {cs : List (List Int)} {an : List Int} (h : cs.length < 2 ∨ Apt cs an) : AptR cs an (.bool true) := ⟨true, rfl, by simp [h]⟩
end Go.Proofs.Ytiionjpinainlaa
end

/- Layer 11: Apart of the reference. -/
section
namespace Go.Proofs.Ytiionjpinainlaa
set_option linter.unusedVariables false
set_option linter.unusedSimpArgs false
set_option linter.unnecessarySimpa false
set_option linter.unusedSectionVars false
set_option maxRecDepth 10000
open Go.RowKit
def plGL11o_0 : Plan := (.take 0 (.take 1 (.take 2 (.take 3 (.take 4 (.take 5 (.take 6 (.take 7 (.alt 8 (.take 9 .done) .stop)))))))))
def plGL11o_1 : Plan := (.take 0 (.take 1 (.take 2 (.take 4 (.take 5 (.take 6 (.alt 3 (.alt 7 (.alt 8 (.take 9 .done) .stop) .stop) (.alt 7 (.alt 3 (.alt 8 (.take 9 .done) .stop) .stop) .stop))))))))
def plGL11o_2 : Plan := (.take 0 (.take 1 (.take 2 (.take 3 (.take 4 (.take 5 (.take 6 (.take 7 (.take 8 (.alt 9 (.take 10 .done) .stop))))))))))
def plGL11o_3 : Plan := (.take 0 (.take 1 (.take 2 (.take 4 (.take 5 (.take 6 (.take 8 (.alt 3 (.alt 7 (.alt 9 (.take 10 .done) .stop) .stop) (.alt 7 (.alt 3 (.alt 9 (.take 10 .done) .stop) .stop) .stop)))))))))
def WitR (a b c : List Int) (r : AV) : Prop := ∃ v, r = .bool v ∧ (v = true ↔ ∀ x ∈ a, x ∈ b → x ∈ c)
theorem has_any11 (xs : List Int) (x : Int) (hl : xs.length ≤ 9223372036854775807) : Good Try.prog TT false 31 [ints xs, .int .i64 x] (· = .bool (hasB xs x)) := by
  have L : (xs.map encI).length = xs.length := List.length_map ..
  refine good_of mixed tabOk Try.func31 rfl rfl Try.ntmps31 Try.results31 rfl rfl ?_
  (conv => whnf); (repeat (first | (refine arith_i ⟨by omega, by omega⟩ ?_; conv => whnf) | (refine need_i (by first | omega | (simp only [List.length_append, List.length_cons, List.length_nil]; omega)) ?_; conv => whnf) | ((with_reducible refine branch_tt ?_); conv => whnf) | ((with_reducible refine branch_ff ?_); conv => whnf) | (with_reducible refine branch_not ?_) | ((with_reducible refine slc_e ?_); conv => whnf) | ((with_reducible refine callS_a ?_); conv => whnf) | ((with_reducible refine bld_a ?_); conv => whnf) | ((with_reducible refine own_e ?_); conv => whnf) | ((with_reducible refine mkmap_b ?_); conv => whnf)))
  refine loop_i (fun k : Nat => k ≤ xs.length ∧ ∀ j y, j < k → xs[j]? = some y → y ≠ x) (fun k => mkSt [(0, ints xs), (1, .int .i64 x), (5, .int .i64 k)] [] false) (fun k => xs.length - k) 0 ⟨Nat.zero_le _, nofun⟩ (le_mk ⟨rfl, rfl, rfl, trivial⟩ trivial rfl) ?_
  rintro k ⟨hk, hall⟩
  (conv => whnf); (repeat (first | (refine arith_i ⟨by omega, by omega⟩ ?_; conv => whnf) | (refine need_i (by first | omega | (simp only [List.length_append, List.length_cons, List.length_nil]; omega)) ?_; conv => whnf) | ((with_reducible refine branch_tt ?_); conv => whnf) | ((with_reducible refine branch_ff ?_); conv => whnf) | (with_reducible refine branch_not ?_) | ((with_reducible refine slc_e ?_); conv => whnf) | ((with_reducible refine callS_a ?_); conv => whnf) | ((with_reducible refine bld_a ?_); conv => whnf) | ((with_reducible refine own_e ?_); conv => whnf) | ((with_reducible refine mkmap_b ?_); conv => whnf)))
  refine branch_d (fun h => ?_) (fun h => ?_)
  · (conv => whnf); (repeat (first | (refine arith_i ⟨by omega, by omega⟩ ?_; conv => whnf) | (refine need_i (by first | omega | (simp only [List.length_append, List.length_cons, List.length_nil]; omega)) ?_; conv => whnf) | ((with_reducible refine branch_tt ?_); conv => whnf) | ((with_reducible refine branch_ff ?_); conv => whnf) | (with_reducible refine branch_not ?_) | ((with_reducible refine slc_e ?_); conv => whnf) | ((with_reducible refine callS_a ?_); conv => whnf) | ((with_reducible refine bld_a ?_); conv => whnf) | ((with_reducible refine own_e ?_); conv => whnf) | ((with_reducible refine mkmap_b ?_); conv => whnf)))
    refine idx_m (by omega) (by omega) fun y hy => ?_
    rw [Int.toNat_natCast] at hy
    (conv => whnf); (repeat (first | (refine arith_i ⟨by omega, by omega⟩ ?_; conv => whnf) | (refine need_i (by first | omega | (simp only [List.length_append, List.length_cons, List.length_nil]; omega)) ?_; conv => whnf) | ((with_reducible refine branch_tt ?_); conv => whnf) | ((with_reducible refine branch_ff ?_); conv => whnf) | (with_reducible refine branch_not ?_) | ((with_reducible refine slc_e ?_); conv => whnf) | ((with_reducible refine callS_a ?_); conv => whnf) | ((with_reducible refine bld_a ?_); conv => whnf) | ((with_reducible refine own_e ?_); conv => whnf) | ((with_reducible refine mkmap_b ?_); conv => whnf)))
    refine branch_e (fun e => ?_) (fun e => ?_)
    · (conv => whnf); (repeat (first | (refine arith_i ⟨by omega, by omega⟩ ?_; conv => whnf) | (refine need_i (by first | omega | (simp only [List.length_append, List.length_cons, List.length_nil]; omega)) ?_; conv => whnf) | ((with_reducible refine branch_tt ?_); conv => whnf) | ((with_reducible refine branch_ff ?_); conv => whnf) | (with_reducible refine branch_not ?_) | ((with_reducible refine slc_e ?_); conv => whnf) | ((with_reducible refine callS_a ?_); conv => whnf) | ((with_reducible refine bld_a ?_); conv => whnf) | ((with_reducible refine own_e ?_); conv => whnf) | ((with_reducible refine mkmap_b ?_); conv => whnf)))
      exact ret_p rfl (by rw [(hasB_iff (xs := xs) (x := x)).2 (e ▸ List.mem_of_getElem? hy)])
    · (conv => whnf); (repeat (first | (refine arith_i ⟨by omega, by omega⟩ ?_; conv => whnf) | (refine need_i (by first | omega | (simp only [List.length_append, List.length_cons, List.length_nil]; omega)) ?_; conv => whnf) | ((with_reducible refine branch_tt ?_); conv => whnf) | ((with_reducible refine branch_ff ?_); conv => whnf) | (with_reducible refine branch_not ?_) | ((with_reducible refine slc_e ?_); conv => whnf) | ((with_reducible refine callS_a ?_); conv => whnf) | ((with_reducible refine bld_a ?_); conv => whnf) | ((with_reducible refine own_e ?_); conv => whnf) | ((with_reducible refine mkmap_b ?_); conv => whnf)))
      refine ⟨k + 1, ⟨by omega, fun j z hj hz => ?_⟩, le_mk ⟨rfl, rfl, rfl, trivial⟩ trivial rfl, by omega⟩
      rcases Nat.lt_or_ge j k with h' | h'
      · exact hall j z h' hz
      · obtain rfl : j = k := by omega
        rw [hy] at hz; injection hz with hz; exact hz ▸ e
  · (conv => whnf); (repeat (first | (refine arith_i ⟨by omega, by omega⟩ ?_; conv => whnf) | (refine need_i (by first | omega | (simp only [List.length_append, List.length_cons, List.length_nil]; omega)) ?_; conv => whnf) | ((with_reducible refine branch_tt ?_); conv => whnf) | ((with_reducible refine branch_ff ?_); conv => whnf) | (with_reducible refine branch_not ?_) | ((with_reducible refine slc_e ?_); conv => whnf) | ((with_reducible refine callS_a ?_); conv => whnf) | ((with_reducible refine bld_a ?_); conv => whnf) | ((with_reducible refine own_e ?_); conv => whnf) | ((with_reducible refine mkmap_b ?_); conv => whnf)))
    refine ret_p rfl ?_
    have : hasB xs x = false := by
      cases hh : hasB xs x with
      | false => rfl
      | true =>
        obtain ⟨i, hi, he⟩ := List.mem_iff_getElem.1 (hasB_iff.1 hh)
        exact absurd he (hall i _ (by omega) (List.getElem?_eq_getElem hi))
    rw [this]
theorem within_ok (a b c : List Int) (ha : a.length ≤ 9223372036854775807) (hb : b.length ≤ 9223372036854775807) (hc : c.length ≤ 9223372036854775807) : Good Try.prog TT false 49 [ints a, ints b, ints c] (WitR a b c) := by
  have LA : (a.map encI).length = a.length := List.length_map ..
  refine good_of mixed tabOk Try.func49 rfl rfl Try.ntmps49 Try.results49 rfl rfl ?_
  (conv => whnf); (repeat' (first | (refine arith_i ⟨by omega, by omega⟩ ?_; conv => whnf) | (refine arith_u ⟨by omega, by omega⟩ ?_; conv => whnf) | (refine arith_8 ⟨by omega, by omega⟩ ?_; conv => whnf) | (refine need_i (by first | omega | (simp only [List.length_cons, List.length_nil]; omega) | (simp only [List.length_append, List.length_cons, List.length_nil, List.length_map, List.length_replicate, List.length_modify]; omega)) ?_; conv => whnf) | ((with_reducible refine branch_tt ?_); conv => whnf) | ((with_reducible refine branch_ff ?_); conv => whnf) | (with_reducible refine branch_not ?_) | ((with_reducible refine slc_e ?_); conv => whnf) | ((with_reducible refine callS_a ?_); conv => whnf) | ((with_reducible refine bld_a ?_); conv => whnf) | ((with_reducible refine own_e ?_); conv => whnf) | ((with_reducible refine mkmap_b ?_); conv => whnf) | ((with_reducible refine branch_d (fun hq => ?_) (fun hq => ?_)) <;> (try (exfalso; omega)) <;> (conv => whnf)) | ((with_reducible refine branch_e (fun hq => ?_) (fun hq => ?_)) <;> (try (exfalso; omega)) <;> (conv => whnf)) | ((with_reducible refine branch_n (fun hq => ?_) (fun hq => ?_)) <;> (try (exfalso; omega)) <;> (conv => whnf)) | ((with_reducible refine branch_i (fun hq => ?_) (fun hq => ?_)) <;> (try (exfalso; omega)) <;> (conv => whnf))))
  refine loop_i (fun k : Nat => k ≤ a.length ∧ ∀ x ∈ a.take k, x ∈ b → x ∈ c) (fun k => mkSt [(0, ints a), (1, ints b), (2, ints c), (7, .int .i64 k)] [] false) (fun k => a.length - k) 0 ⟨Nat.zero_le _, by simp⟩ (le_mk (by repeat' (first | exact trivial | rfl | apply And.intro)) (by repeat' (first | exact trivial | rfl | apply And.intro)) rfl) ?_
  rintro k ⟨hk, hall⟩
  (conv => whnf); (repeat' (first | (refine arith_i ⟨by omega, by omega⟩ ?_; conv => whnf) | (refine arith_u ⟨by omega, by omega⟩ ?_; conv => whnf) | (refine arith_8 ⟨by omega, by omega⟩ ?_; conv => whnf) | (refine need_i (by first | omega | (simp only [List.length_cons, List.length_nil]; omega) | (simp only [List.length_append, List.length_cons, List.length_nil, List.length_map, List.length_replicate, List.length_modify]; omega)) ?_; conv => whnf) | ((with_reducible refine branch_tt ?_); conv => whnf) | ((with_reducible refine branch_ff ?_); conv => whnf) | (with_reducible refine branch_not ?_) | ((refine idx_cs (by assumption) ?_); conv => whnf) | (((refine idx_c (xs := a) (by omega) fun x hx => ?_)); conv => whnf) | ((refine call_e (has_any11 b x hb) ?_); conv => whnf) | ((refine call_e (has_any11 c x hc) ?_); conv => whnf) | ((with_reducible refine slc_e ?_); conv => whnf) | ((with_reducible refine callS_a ?_); conv => whnf) | ((with_reducible refine bld_a ?_); conv => whnf) | ((with_reducible refine own_e ?_); conv => whnf) | ((with_reducible refine mkmap_b ?_); conv => whnf) | ((with_reducible refine branch_d (fun hq => ?_) (fun hq => ?_)) <;> (try (exfalso; omega)) <;> (conv => whnf)) | ((with_reducible refine branch_e (fun hq => ?_) (fun hq => ?_)) <;> (try (exfalso; omega)) <;> (conv => whnf)) | ((with_reducible refine branch_n (fun hq => ?_) (fun hq => ?_)) <;> (try (exfalso; omega)) <;> (conv => whnf)) | ((with_reducible refine branch_i (fun hq => ?_) (fun hq => ?_)) <;> (try (exfalso; omega)) <;> (conv => whnf))))
  · have hm : x ∈ c := hasB_iff.1 hq
    refine ⟨k + 1, ⟨by omega, ?_⟩, (le_mk (by repeat' (first | exact trivial | rfl | apply And.intro)) (by repeat' (first | exact trivial | rfl | apply And.intro)) rfl), by omega⟩
    rw [take_next hx]
    intro y hy hyb
    rw [List.mem_append, List.mem_singleton] at hy
    rcases hy with hy | rfl
    · exact hall y hy hyb
    · exact hm
  · have h1 : x ∈ b := hasB_iff.1 ‹hasB b x = true›
    have h2 : x ∉ c := fun h => by rw [hasB_iff.2 h] at hq; cases hq
    exact ret_p rfl ⟨false, rfl, by simp; exact ⟨x, List.mem_of_getElem? hx, h1, h2⟩⟩
  · have h1 : x ∉ b := fun h => by rw [hasB_iff.2 h] at hq; cases hq
    refine ⟨k + 1, ⟨by omega, ?_⟩, (le_mk (by repeat' (first | exact trivial | rfl | apply And.intro)) (by repeat' (first | exact trivial | rfl | apply And.intro)) rfl), by omega⟩
    rw [take_next hx]
    intro y hy hyb
    rw [List.mem_append, List.mem_singleton] at hy
    rcases hy with hy | rfl
    · exact hall y hy hyb
    · exact absurd hyb h1
  · have hkk : a.take k = a := List.take_of_length_le (by omega)
    rw [hkk] at hall
    exact ret_p rfl ⟨true, rfl, by simp; exact hall⟩
set_option maxHeartbeats 4000000 in
theorem rApart_ok (cs : List (List Int)) (an : List Int) (h1 : cs.length ≤ 1000) (h2 : an.length ≤ 1000000) (h3 : ∀ l ∈ cs, l.length ≤ 9223372036854775807) : Good Try.prog TT false 21 [.lst 1 (cs.map encS), ints an] (AptR cs an) := by
  have LC : (cs.map encS).length = cs.length := List.length_map ..
  have LN : (an.map encI).length = an.length := List.length_map ..
  refine good_of mixed tabOk Try.func21 rfl rfl Try.ntmps21 Try.results21 rfl rfl ?_
  (conv => whnf); (repeat' (first | (refine arith_i ⟨by omega, by omega⟩ ?_; conv => whnf) | (refine arith_u ⟨by omega, by omega⟩ ?_; conv => whnf) | (refine arith_8 ⟨by omega, by omega⟩ ?_; conv => whnf) | (refine need_i (by first | omega | (simp only [List.length_cons, List.length_nil]; omega) | (simp only [List.length_append, List.length_cons, List.length_nil, List.length_map, List.length_replicate, List.length_modify]; omega)) ?_; conv => whnf) | ((with_reducible refine branch_tt ?_); conv => whnf) | ((with_reducible refine branch_ff ?_); conv => whnf) | (with_reducible refine branch_not ?_) | ((with_reducible refine slc_e ?_); conv => whnf) | ((with_reducible refine callS_a ?_); conv => whnf) | ((with_reducible refine bld_a ?_); conv => whnf) | ((with_reducible refine own_e ?_); conv => whnf) | ((with_reducible refine mkmap_b ?_); conv => whnf) | (refine draw_i 10 plGL11o_0 (by decide +kernel) ?_; (conv => whnf); fail_if_success (guard_target =~ False)) | (refine draw_i 10 plGL11o_1 (by decide +kernel) ?_; (conv => whnf); fail_if_success (guard_target =~ False)) | (refine draw_i 11 plGL11o_2 (by decide +kernel) ?_; (conv => whnf); fail_if_success (guard_target =~ False)) | (refine draw_i 11 plGL11o_3 (by decide +kernel) ?_; (conv => whnf); fail_if_success (guard_target =~ False)) | ((with_reducible refine And.intro ?_ ?_) <;> (conv => whnf)) | (with_reducible exact trivial) | ((with_reducible refine branch_d (fun hq => ?_) (fun hq => ?_)) <;> (try (exfalso; omega)) <;> (conv => whnf)) | ((with_reducible refine branch_e (fun hq => ?_) (fun hq => ?_)) <;> (try (exfalso; omega)) <;> (conv => whnf)) | ((with_reducible refine branch_n (fun hq => ?_) (fun hq => ?_)) <;> (try (exfalso; omega)) <;> (conv => whnf)) | ((with_reducible refine branch_i (fun hq => ?_) (fun hq => ?_)) <;> (try (exfalso; omega)) <;> (conv => whnf))))
  · exact ret_p rfl (apt_true (.inl (by omega)))
  have hc2 : ¬ cs.length < 2 := by omega
  refine loop_i (fun i : Nat => i ≤ cs.length ∧ AptTo cs an i) (fun i => mkSt [(0, .lst 1 (cs.map encS)), (1, ints an), (5, .int .i64 i)] [] false) (fun i => cs.length - i) 0 ⟨Nat.zero_le _, fun i l hi => by omega⟩ (le_mk (by repeat' (first | exact trivial | rfl | apply And.intro)) (by repeat' (first | exact trivial | rfl | apply And.intro)) rfl) ?_
  rintro i ⟨hi, hT⟩
  (conv => whnf); (repeat' (first | (refine arith_i ⟨by omega, by omega⟩ ?_; conv => whnf) | (refine arith_u ⟨by omega, by omega⟩ ?_; conv => whnf) | (refine arith_8 ⟨by omega, by omega⟩ ?_; conv => whnf) | (refine need_i (by first | omega | (simp only [List.length_cons, List.length_nil]; omega) | (simp only [List.length_append, List.length_cons, List.length_nil, List.length_map, List.length_replicate, List.length_modify]; omega)) ?_; conv => whnf) | ((with_reducible refine branch_tt ?_); conv => whnf) | ((with_reducible refine branch_ff ?_); conv => whnf) | (with_reducible refine branch_not ?_) | ((with_reducible refine slc_e ?_); conv => whnf) | ((with_reducible refine callS_a ?_); conv => whnf) | ((with_reducible refine bld_a ?_); conv => whnf) | ((with_reducible refine own_e ?_); conv => whnf) | ((with_reducible refine mkmap_b ?_); conv => whnf) | (refine draw_i 10 plGL11o_0 (by decide +kernel) ?_; (conv => whnf); fail_if_success (guard_target =~ False)) | (refine draw_i 10 plGL11o_1 (by decide +kernel) ?_; (conv => whnf); fail_if_success (guard_target =~ False)) | (refine draw_i 11 plGL11o_2 (by decide +kernel) ?_; (conv => whnf); fail_if_success (guard_target =~ False)) | (refine draw_i 11 plGL11o_3 (by decide +kernel) ?_; (conv => whnf); fail_if_success (guard_target =~ False)) | ((with_reducible refine And.intro ?_ ?_) <;> (conv => whnf)) | (with_reducible exact trivial) | ((with_reducible refine branch_d (fun hq => ?_) (fun hq => ?_)) <;> (try (exfalso; omega)) <;> (conv => whnf)) | ((with_reducible refine branch_e (fun hq => ?_) (fun hq => ?_)) <;> (try (exfalso; omega)) <;> (conv => whnf)) | ((with_reducible refine branch_n (fun hq => ?_) (fun hq => ?_)) <;> (try (exfalso; omega)) <;> (conv => whnf)) | ((with_reducible refine branch_i (fun hq => ?_) (fun hq => ?_)) <;> (try (exfalso; omega)) <;> (conv => whnf))))
  · have hiC : i < cs.length := by omega
    obtain ⟨l, hl⟩ : ∃ l, cs[i]? = some l := ⟨_, List.getElem?_eq_getElem hiC⟩
    have hll := h3 l (List.mem_of_getElem? hl)
    have LL : (l.map encI).length = l.length := List.length_map ..
    refine loop_i (fun k : Nat => k ≤ an.length ∧ ∀ a ∈ an.take k, a ∈ l) (fun k => mkSt [(0, .lst 1 (cs.map encS)), (1, ints an), (5, .int .i64 i), (6, .int .i64 k)] [] false) (fun k => an.length - k) 0 ⟨Nat.zero_le _, by simp⟩ (le_mk (by repeat' (first | exact trivial | rfl | apply And.intro)) (by repeat' (first | exact trivial | rfl | apply And.intro)) rfl) ?_
    rintro k ⟨hk, hall⟩
    (conv => whnf); (repeat' (first | (refine arith_i ⟨by omega, by omega⟩ ?_; conv => whnf) | (refine arith_u ⟨by omega, by omega⟩ ?_; conv => whnf) | (refine arith_8 ⟨by omega, by omega⟩ ?_; conv => whnf) | (refine need_i (by first | omega | (simp only [List.length_cons, List.length_nil]; omega) | (simp only [List.length_append, List.length_cons, List.length_nil, List.length_map, List.length_replicate, List.length_modify]; omega)) ?_; conv => whnf) | ((with_reducible refine branch_tt ?_); conv => whnf) | ((with_reducible refine branch_ff ?_); conv => whnf) | (with_reducible refine branch_not ?_) | ((refine idx_ms (xs := cs) (enc := encS) (x := l) (by omega) (by rw [Int.toNat_natCast]; exact hl) ?_); conv => whnf) | (((refine idx_c (xs := an) (by omega) fun a haa => ?_)); conv => whnf) | ((refine call_e (has_any11 l a hll) ?_); conv => whnf) | ((refine idx_cs (by assumption) ?_); conv => whnf) | ((with_reducible refine slc_e ?_); conv => whnf) | ((with_reducible refine callS_a ?_); conv => whnf) | ((with_reducible refine bld_a ?_); conv => whnf) | ((with_reducible refine own_e ?_); conv => whnf) | ((with_reducible refine mkmap_b ?_); conv => whnf) | (refine draw_i 10 plGL11o_0 (by decide +kernel) ?_; (conv => whnf); fail_if_success (guard_target =~ False)) | (refine draw_i 10 plGL11o_1 (by decide +kernel) ?_; (conv => whnf); fail_if_success (guard_target =~ False)) | (refine draw_i 11 plGL11o_2 (by decide +kernel) ?_; (conv => whnf); fail_if_success (guard_target =~ False)) | (refine draw_i 11 plGL11o_3 (by decide +kernel) ?_; (conv => whnf); fail_if_success (guard_target =~ False)) | ((with_reducible refine And.intro ?_ ?_) <;> (conv => whnf)) | (with_reducible exact trivial) | ((with_reducible refine branch_d (fun hq => ?_) (fun hq => ?_)) <;> (try (exfalso; omega)) <;> (conv => whnf)) | ((with_reducible refine branch_e (fun hq => ?_) (fun hq => ?_)) <;> (try (exfalso; omega)) <;> (conv => whnf)) | ((with_reducible refine branch_n (fun hq => ?_) (fun hq => ?_)) <;> (try (exfalso; omega)) <;> (conv => whnf)) | ((with_reducible refine branch_i (fun hq => ?_) (fun hq => ?_)) <;> (try (exfalso; omega)) <;> (conv => whnf))))
    · have hm : a ∈ l := hasB_iff.1 (by assumption)
      refine ⟨k + 1, ⟨by omega, ?_⟩, (le_mk (by repeat' (first | exact trivial | rfl | apply And.intro)) (by repeat' (first | exact trivial | rfl | apply And.intro)) rfl), by omega⟩
      rw [take_next haa]
      intro y hy
      rw [List.mem_append, List.mem_singleton] at hy
      rcases hy with hy | rfl
      · exact hall y hy
      · exact hm
    · have hm : a ∉ l := fun h => by
        have := hasB_iff.2 h
        simp_all
      exact ret_p rfl (apt_false hc2 fun hA => hm ((hA.at hl).1 a (List.mem_of_getElem? haa)))
    have hkk : an.take k = an := List.take_of_length_le (by omega)
    rw [hkk] at hall
    refine loop_i (fun m : Nat => m ≤ i ∧ ∀ k' l', k' < m → cs[k']? = some l' → ∀ x ∈ l, x ∈ l' → x ∈ an) (fun m => mkSt [(0, .lst 1 (cs.map encS)), (1, ints an), (5, .int .i64 i), (7, .int .i64 m)] [] false) (fun m => i - m) 0 ⟨Nat.zero_le _, fun k' l' h => by omega⟩ (le_mk (by repeat' (first | exact trivial | rfl | apply And.intro)) (by repeat' (first | exact trivial | rfl | apply And.intro)) rfl) ?_
    rintro m ⟨hm, hall2⟩
    rcases Nat.lt_or_ge m i with hmi | hmi
    · obtain ⟨l', hl'⟩ : ∃ l', cs[m]? = some l' := ⟨_, List.getElem?_eq_getElem (by omega)⟩
      have hll' := h3 l' (List.mem_of_getElem? hl')
      (conv => whnf); (repeat' (first | (refine arith_i ⟨by omega, by omega⟩ ?_; conv => whnf) | (refine arith_u ⟨by omega, by omega⟩ ?_; conv => whnf) | (refine arith_8 ⟨by omega, by omega⟩ ?_; conv => whnf) | (refine need_i (by first | omega | (simp only [List.length_cons, List.length_nil]; omega) | (simp only [List.length_append, List.length_cons, List.length_nil, List.length_map, List.length_replicate, List.length_modify]; omega)) ?_; conv => whnf) | ((with_reducible refine branch_tt ?_); conv => whnf) | ((with_reducible refine branch_ff ?_); conv => whnf) | (with_reducible refine branch_not ?_) | ((refine idx_ms (xs := cs) (enc := encS) (x := l) (by omega) (by rw [Int.toNat_natCast]; exact hl) ?_); conv => whnf) | ((refine idx_ms (xs := cs) (enc := encS) (x := l') (by omega) (by rw [Int.toNat_natCast]; exact hl') ?_); conv => whnf) | (((refine call_i (within_ok l l' an hll hll' (by omega)) fun r hr => ?_; obtain ⟨v, rfl, hw⟩ := hr)); conv => whnf) | ((with_reducible refine slc_e ?_); conv => whnf) | ((with_reducible refine callS_a ?_); conv => whnf) | ((with_reducible refine bld_a ?_); conv => whnf) | ((with_reducible refine own_e ?_); conv => whnf) | ((with_reducible refine mkmap_b ?_); conv => whnf) | (refine draw_i 10 plGL11o_0 (by decide +kernel) ?_; (conv => whnf); fail_if_success (guard_target =~ False)) | (refine draw_i 10 plGL11o_1 (by decide +kernel) ?_; (conv => whnf); fail_if_success (guard_target =~ False)) | (refine draw_i 11 plGL11o_2 (by decide +kernel) ?_; (conv => whnf); fail_if_success (guard_target =~ False)) | (refine draw_i 11 plGL11o_3 (by decide +kernel) ?_; (conv => whnf); fail_if_success (guard_target =~ False)) | ((with_reducible refine And.intro ?_ ?_) <;> (conv => whnf)) | (with_reducible exact trivial) | ((with_reducible refine branch_d (fun hq => ?_) (fun hq => ?_)) <;> (try (exfalso; omega)) <;> (conv => whnf)) | ((with_reducible refine branch_e (fun hq => ?_) (fun hq => ?_)) <;> (try (exfalso; omega)) <;> (conv => whnf)) | ((with_reducible refine branch_n (fun hq => ?_) (fun hq => ?_)) <;> (try (exfalso; omega)) <;> (conv => whnf)) | ((with_reducible refine branch_i (fun hq => ?_) (fun hq => ?_)) <;> (try (exfalso; omega)) <;> (conv => whnf))))
      · have hv : v = true := by assumption
        refine ⟨m + 1, ⟨by omega, fun k' l2 hk' hl2 => ?_⟩, (le_mk (by repeat' (first | exact trivial | rfl | apply And.intro)) (by repeat' (first | exact trivial | rfl | apply And.intro)) rfl), by omega⟩
        rcases Nat.lt_or_ge k' m with h | h
        · exact hall2 k' l2 h hl2
        · obtain rfl : k' = m := by omega
          rw [hl'] at hl2; injection hl2 with hl2; subst hl2
          exact hw.1 hv
      · have hv : ¬ v = true := by simp_all
        exact ret_p rfl (apt_false hc2 fun hA => hv (hw.2 ((hA.at hl).2 m l' hmi hl')))
    · (conv => whnf); (repeat' (first | (refine arith_i ⟨by omega, by omega⟩ ?_; conv => whnf) | (refine arith_u ⟨by omega, by omega⟩ ?_; conv => whnf) | (refine arith_8 ⟨by omega, by omega⟩ ?_; conv => whnf) | (refine need_i (by first | omega | (simp only [List.length_cons, List.length_nil]; omega) | (simp only [List.length_append, List.length_cons, List.length_nil, List.length_map, List.length_replicate, List.length_modify]; omega)) ?_; conv => whnf) | ((with_reducible refine branch_tt ?_); conv => whnf) | ((with_reducible refine branch_ff ?_); conv => whnf) | (with_reducible refine branch_not ?_) | ((with_reducible refine slc_e ?_); conv => whnf) | ((with_reducible refine callS_a ?_); conv => whnf) | ((with_reducible refine bld_a ?_); conv => whnf) | ((with_reducible refine own_e ?_); conv => whnf) | ((with_reducible refine mkmap_b ?_); conv => whnf) | (refine draw_i 10 plGL11o_0 (by decide +kernel) ?_; (conv => whnf); fail_if_success (guard_target =~ False)) | (refine draw_i 10 plGL11o_1 (by decide +kernel) ?_; (conv => whnf); fail_if_success (guard_target =~ False)) | (refine draw_i 11 plGL11o_2 (by decide +kernel) ?_; (conv => whnf); fail_if_success (guard_target =~ False)) | (refine draw_i 11 plGL11o_3 (by decide +kernel) ?_; (conv => whnf); fail_if_success (guard_target =~ False)) | ((with_reducible refine And.intro ?_ ?_) <;> (conv => whnf)) | (with_reducible exact trivial) | ((with_reducible refine branch_d (fun hq => ?_) (fun hq => ?_)) <;> (try (exfalso; omega)) <;> (conv => whnf)) | ((with_reducible refine branch_e (fun hq => ?_) (fun hq => ?_)) <;> (try (exfalso; omega)) <;> (conv => whnf)) | ((with_reducible refine branch_n (fun hq => ?_) (fun hq => ?_)) <;> (try (exfalso; omega)) <;> (conv => whnf)) | ((with_reducible refine branch_i (fun hq => ?_) (fun hq => ?_)) <;> (try (exfalso; omega)) <;> (conv => whnf))))
      have hat : AptAt cs an i l := ⟨hall, fun k' l' hk' => hall2 k' l' (by omega)⟩
      exact ⟨i + 1, ⟨by omega, hT.next hl hat⟩, (le_mk (by repeat' (first | exact trivial | rfl | apply And.intro)) (by repeat' (first | exact trivial | rfl | apply And.intro)) rfl), by omega⟩
  · have hin : i = cs.length := by omega
    exact ret_p rfl (apt_true (.inr (by rw [hin] at hT; exact hT)))
end Go.Proofs.Ytiionjpinainlaa
end
