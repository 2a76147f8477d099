/- Several texts in one: GL26u, GL26m, GL25h, GL25i, GL26n, GBrM. -/
import Derived.Test.YthgnomniboindaaD6
import Derived.Test.YthgnomniboindaaD2
import Derived.Test.YthgnomniboindaaD5
import Derived.Test.YthgnomniboindaaD1
import Derived.Test.YthgnomniboindaaFrame
/- Layer 26: the reference's check of seeds. -/
section
namespace Go.Proofs.Ythgnomniboindaa
set_option linter.unusedVariables false
set_option linter.unusedSimpArgs false
set_option linter.unnecessarySimpa false
set_option linter.unusedSectionVars false
set_option maxRecDepth 10000
open Go.RowKit
def plGL26u_0 : Plan := (.take 0 (.take 1 (.take 2 (.take 3 (.take 4 (.take 5 (.take 6 (.take 7 (.take 8 (.take 9 (.take 10 (.take 11 (.take 12 (.take 13 (.take 14 (.take 15 (.take 16 (.take 17 .done))))))))))))))))))
def plGL26u_1 : Plan := (.take 0 (.take 1 (.take 2 (.take 3 (.take 5 (.take 6 (.alt 4 (.take 7 (.take 8 (.take 9 (.take 10 (.take 11 (.take 12 (.take 14 (.alt 13 (.alt 15 (.take 16 (.take 17 .done)) .stop) (.alt 15 (.alt 13 (.take 16 (.take 17 .done)) .stop) .stop))))))))) .stop)))))))
def plGL26u_2 : Plan := (.take 0 (.take 1 (.take 2 (.take 3 (.take 5 (.alt 4 (.alt 6 (.take 7 (.take 8 (.take 9 (.take 10 (.take 11 (.take 12 (.take 14 (.alt 13 (.alt 15 (.take 16 (.take 17 .done)) .stop) (.alt 15 (.alt 13 (.take 16 (.take 17 .done)) .stop) .stop))))))))) .stop) (.alt 6 (.alt 4 (.take 7 (.take 8 (.take 9 (.take 10 (.take 11 (.take 12 (.take 14 (.alt 13 (.alt 15 (.take 16 (.take 17 .done)) .stop) (.alt 15 (.alt 13 (.take 16 (.take 17 .done)) .stop) .stop))))))))) .stop) .stop)))))))
def plGL26u_3 : Plan := (.take 0 (.take 1 (.take 2 (.alt 3 (.take 4 (.take 5 (.take 6 (.take 7 (.take 8 (.take 10 (.take 12 (.alt 9 (.alt 11 (.take 13 (.take 14 (.alt 15 (.take 16 (.take 17 .done)) .stop))) .stop) (.alt 11 (.take 13 (.take 14 (.alt 9 (.alt 15 (.take 16 (.take 17 .done)) .stop) (.alt 15 (.alt 9 (.take 16 (.take 17 .done)) .stop) .stop)))) .stop))))))))) .stop))))
def plGL26u_4 : Plan := (.take 0 (.take 1 (.take 2 (.take 3 (.take 4 (.take 5 (.take 6 (.take 7 (.take 8 (.take 9 (.take 10 (.take 11 (.take 12 (.take 13 (.take 14 (.take 15 .done))))))))))))))))
def plGL26u_5 : Plan := (.take 0 (.take 1 (.take 2 (.take 3 (.take 4 (.take 5 (.take 6 (.take 8 (.take 9 (.take 10 (.take 11 (.take 12 (.alt 7 (.alt 13 (.take 14 (.take 15 .done)) .stop) (.alt 13 (.alt 7 (.take 14 (.take 15 .done)) .stop) .stop))))))))))))))
def plGL26u_6 : Plan := (.take 0 (.take 1 (.take 2 (.take 3 (.take 4 (.take 5 (.take 6 (.take 7 (.take 8 (.take 9 (.take 10 (.take 11 (.alt 12 (.take 13 (.take 14 .done)) .stop)))))))))))))
def plGL26u_7 : Plan := (.take 0 (.take 1 (.take 2 (.take 3 (.take 4 (.take 5 (.take 7 (.take 8 (.take 9 (.take 10 (.alt 6 (.alt 11 (.alt 12 (.take 13 (.take 14 .done)) .stop) .stop) (.alt 11 (.alt 6 (.alt 12 (.take 13 (.take 14 .done)) .stop) .stop) .stop))))))))))))
def pidxV (o : Option Nat) : AV := match o with
  | some i => .tup [.int .i64 i, .bool true]
  | none => .tup [.int .i64 0, .bool false]
set_option maxHeartbeats 4000000 in
theorem rPaper_ok (ps : List Pap) (x : Scr) (hl : ps.length ≤ 1000) : Good Try.prog TT false 46 [.lst 3 (ps.map encPap), .agg (encR x)] (· = pidxV (idxPap ps x)) := by
  have L : (ps.map encPap).length = ps.length := List.length_map ..
  refine good_of mixed tabOk Try.func46 rfl rfl Try.ntmps46 Try.results46 rfl rfl ?_
  (conv => whnf); (repeat' (first | (refine arith_i ⟨by omega, by omega⟩ ?_; conv => whnf) | (refine arith_u ⟨by omega, by omega⟩ ?_; conv => whnf) | (refine arith_8 ⟨by omega, by omega⟩ ?_; conv => whnf) | (refine need_i (by first | omega | (simp only [List.length_cons, List.length_nil]; omega) | (simp only [List.length_append, List.length_cons, List.length_nil, List.length_map, List.length_replicate, List.length_modify]; omega)) ?_; conv => whnf) | ((with_reducible first | refine branch_tt ?_ | refine branch_ff ?_); conv => whnf) | (with_reducible refine branch_not ?_) | ((with_reducible first | refine slc_e ?_ | refine callS_a ?_ | refine bld_a ?_ | refine own_e ?_ | refine mkmap_b ?_ | refine lnk_a ?_); conv => whnf) | (refine draw_i 18 plGL26u_0 (by decide +kernel) ?_; (conv => whnf); fail_if_success (guard_target =~ False)) | (refine draw_i 18 plGL26u_1 (by decide +kernel) ?_; (conv => whnf); fail_if_success (guard_target =~ False)) | (refine draw_i 18 plGL26u_2 (by decide +kernel) ?_; (conv => whnf); fail_if_success (guard_target =~ False)) | ((with_reducible refine And.intro ?_ ?_) <;> (conv => whnf)) | (with_reducible exact trivial) | ((with_reducible first | refine branch_d (fun hq => ?_) (fun hq => ?_) | refine branch_e (fun hq => ?_) (fun hq => ?_) | refine branch_n (fun hq => ?_) (fun hq => ?_) | refine branch_i (fun hq => ?_) (fun hq => ?_)) <;> (try (exfalso; omega)) <;> (conv => whnf))))
  refine loop_i (fun i : Nat => i ≤ ps.length ∧ ∀ j p, j < i → ps[j]? = some p → papM x p = false) (fun i => mkSt [(0, .lst 3 (ps.map encPap)), (3, .ptr 3 0), (6, .int .i64 i)] [(3, encR x)] false) (fun i => ps.length - i) 0 ⟨Nat.zero_le _, nofun⟩ (le_mk ⟨rfl, rfl, rfl, trivial⟩ ⟨rfl, trivial⟩ rfl) ?_
  rintro i ⟨hi, hno⟩
  rcases Nat.lt_or_ge i ps.length with hil | hil
  · obtain ⟨p, hp⟩ : ∃ p, ps[i]? = some p := ⟨_, List.getElem?_eq_getElem hil⟩
    have hstep : papM x p = false → ∀ j p', j < i + 1 → ps[j]? = some p' → papM x p' = false := fun h j p' hj hp' => by
      rcases Nat.lt_or_ge j i with g | g
      · exact hno j p' g hp'
      · obtain rfl : j = i := by omega
        rw [hp] at hp'; injection hp' with hp'; rw [← hp']; exact h
    (conv => whnf); (repeat' (first | (refine arith_i ⟨by omega, by omega⟩ ?_; conv => whnf) | (refine arith_u ⟨by omega, by omega⟩ ?_; conv => whnf) | (refine arith_8 ⟨by omega, by omega⟩ ?_; conv => whnf) | (refine need_i (by first | omega | (simp only [List.length_cons, List.length_nil]; omega) | (simp only [List.length_append, List.length_cons, List.length_nil, List.length_map, List.length_replicate, List.length_modify]; omega)) ?_; conv => whnf) | ((with_reducible first | refine branch_tt ?_ | refine branch_ff ?_); conv => whnf) | (with_reducible refine branch_not ?_) | ((refine idx_cs hp ?_); conv => whnf) | ((with_reducible first | refine slc_e ?_ | refine callS_a ?_ | refine bld_a ?_ | refine own_e ?_ | refine mkmap_b ?_ | refine lnk_a ?_); conv => whnf) | (refine draw_i 18 plGL26u_0 (by decide +kernel) ?_; (conv => whnf); fail_if_success (guard_target =~ False)) | (refine draw_i 18 plGL26u_1 (by decide +kernel) ?_; (conv => whnf); fail_if_success (guard_target =~ False)) | (refine draw_i 18 plGL26u_2 (by decide +kernel) ?_; (conv => whnf); fail_if_success (guard_target =~ False)) | ((with_reducible refine And.intro ?_ ?_) <;> (conv => whnf)) | (with_reducible exact trivial) | ((with_reducible first | refine branch_d (fun hq => ?_) (fun hq => ?_) | refine branch_e (fun hq => ?_) (fun hq => ?_) | refine branch_n (fun hq => ?_) (fun hq => ?_) | refine branch_i (fun hq => ?_) (fun hq => ?_)) <;> (try (exfalso; omega)) <;> (conv => whnf))))
    all_goals first
      | (have hm : papM x p = true := by unfold papM; rw [Bool.and_eq_true, beq_iff_eq, beq_iff_eq]; constructor <;> omega
         have hf : idxPap ps x = some i := by
           unfold idxPap
           rw [List.findIdx?_eq_some_iff_getElem]
           refine ⟨hil, by rw [(List.getElem?_eq_some_iff.1 hp).2]; exact hm, fun j hj => ?_⟩
           rw [hno j _ hj (List.getElem?_eq_getElem (by omega))]; simp
         rw [hf]
         exact ret_t (rs := [.int .i64 i, .bool true]) ⟨(rc_p rfl).g, (rc_p rfl).g, trivial⟩ rfl)
      | (have hm : papM x p = false := by unfold papM; rw [Bool.and_eq_false_iff, beq_eq_false_iff_ne, beq_eq_false_iff_ne]; omega
         exact ⟨i + 1, ⟨by omega, hstep hm⟩, le_mk ⟨rfl, rfl, rfl, trivial⟩ ⟨rfl, trivial⟩ rfl, by omega⟩)
  · (conv => whnf); (repeat' (first | (refine arith_i ⟨by omega, by omega⟩ ?_; conv => whnf) | (refine arith_u ⟨by omega, by omega⟩ ?_; conv => whnf) | (refine arith_8 ⟨by omega, by omega⟩ ?_; conv => whnf) | (refine need_i (by first | omega | (simp only [List.length_cons, List.length_nil]; omega) | (simp only [List.length_append, List.length_cons, List.length_nil, List.length_map, List.length_replicate, List.length_modify]; omega)) ?_; conv => whnf) | ((with_reducible first | refine branch_tt ?_ | refine branch_ff ?_); conv => whnf) | (with_reducible refine branch_not ?_) | ((with_reducible first | refine slc_e ?_ | refine callS_a ?_ | refine bld_a ?_ | refine own_e ?_ | refine mkmap_b ?_ | refine lnk_a ?_); conv => whnf) | (refine draw_i 18 plGL26u_0 (by decide +kernel) ?_; (conv => whnf); fail_if_success (guard_target =~ False)) | (refine draw_i 18 plGL26u_1 (by decide +kernel) ?_; (conv => whnf); fail_if_success (guard_target =~ False)) | (refine draw_i 18 plGL26u_2 (by decide +kernel) ?_; (conv => whnf); fail_if_success (guard_target =~ False)) | ((with_reducible refine And.intro ?_ ?_) <;> (conv => whnf)) | (with_reducible exact trivial) | ((with_reducible first | refine branch_d (fun hq => ?_) (fun hq => ?_) | refine branch_e (fun hq => ?_) (fun hq => ?_) | refine branch_n (fun hq => ?_) (fun hq => ?_) | refine branch_i (fun hq => ?_) (fun hq => ?_)) <;> (try (exfalso; omega)) <;> (conv => whnf))))
    have hf : idxPap ps x = none := by
      unfold idxPap
      rw [List.findIdx?_eq_none_iff]
      intro p hp
      obtain ⟨j, hj⟩ := List.getElem?_of_mem hp
      exact hno j p (by have := (List.getElem?_eq_some_iff.1 hj).1; omega) hj
    rw [hf]
    exact ret_t (rs := [.int .i64 0, .bool false]) ⟨(rc_p rfl).g, (rc_p rfl).g, trivial⟩ rfl
set_option maxHeartbeats 4000000 in
theorem rFits_ok (p : Pap) (ms : List Int) (hp : p.parts.length ≤ 1000) (hm : ms.length ≤ 17592186044416) : Good Try.prog TT false 47 [.agg (encPap p), ints ms] (· = .bool (mvB p ms)) := by
  have LP : (p.parts.map encPrt).length = p.parts.length := List.length_map ..
  have LM : (ms.map encI).length = ms.length := List.length_map ..
  unfold mvB
  refine good_of mixed tabOk Try.func47 rfl rfl Try.ntmps47 Try.results47 rfl rfl ?_
  (conv => whnf); (repeat' (first | (refine arith_i ⟨by omega, by omega⟩ ?_; conv => whnf) | (refine arith_u ⟨by omega, by omega⟩ ?_; conv => whnf) | (refine arith_8 ⟨by omega, by omega⟩ ?_; conv => whnf) | (refine need_i (by first | omega | (simp only [List.length_cons, List.length_nil]; omega) | (simp only [List.length_append, List.length_cons, List.length_nil, List.length_map, List.length_replicate, List.length_modify]; omega)) ?_; conv => whnf) | ((with_reducible first | refine branch_tt ?_ | refine branch_ff ?_); conv => whnf) | (with_reducible refine branch_not ?_) | ((with_reducible first | refine slc_e ?_ | refine callS_a ?_ | refine bld_a ?_ | refine own_e ?_ | refine mkmap_b ?_ | refine lnk_a ?_); conv => whnf) | (refine draw_i 18 plGL26u_0 (by decide +kernel) ?_; (conv => whnf); fail_if_success (guard_target =~ False)) | (refine draw_i 18 plGL26u_3 (by decide +kernel) ?_; (conv => whnf); fail_if_success (guard_target =~ False)) | ((with_reducible refine And.intro ?_ ?_) <;> (conv => whnf)) | (with_reducible exact trivial) | ((with_reducible first | refine branch_d (fun hq => ?_) (fun hq => ?_) | refine branch_e (fun hq => ?_) (fun hq => ?_) | refine branch_n (fun hq => ?_) (fun hq => ?_) | refine branch_i (fun hq => ?_) (fun hq => ?_)) <;> (try (exfalso; omega)) <;> (conv => whnf))))
  · exact ret_p rfl (bool_eq (by rw [decide_eq_false (by omega)]; rfl))
  have e0 : ms.length = p.parts.length := by omega
  rw [decide_eq_true e0, Bool.true_and]
  refine loop_i (fun k : Nat => k ≤ p.parts.length ∧ vmB p.parts ms k = true) (fun k => mkSt [(1, ints ms), (2, .ptr 2 0), (5, .int .i64 k)] [(2, encPap p)] false) (fun k => p.parts.length - k) 0 ⟨Nat.zero_le _, rfl⟩ (le_mk ⟨rfl, rfl, rfl, trivial⟩ ⟨rfl, trivial⟩ rfl) ?_
  rintro k ⟨hk, hv⟩
  rcases Nat.lt_or_ge k p.parts.length with hkl | hkl
  · obtain ⟨x, hx⟩ : ∃ x, p.parts[k]? = some x := ⟨_, List.getElem?_eq_getElem hkl⟩
    obtain ⟨y, hy⟩ : ∃ y, ms[k]? = some y := ⟨_, List.getElem?_eq_getElem (by omega)⟩
    have hn := nth_eq hy
    have hnx : vmB p.parts ms (k + 1) = (decide (0 ≤ y) && decide (y ≤ x.max)) := by rw [vmB, hv, hx, hn]; rfl
    have hbad : (y < 0 ∨ x.max < y) → vmB p.parts ms p.parts.length = false := fun h => vmB_false (i := k + 1) (by omega) (by
      rw [hnx, Bool.eq_false_iff, Ne]
      simp only [Bool.and_eq_true, decide_eq_true_eq]
      omega)
    (conv => whnf); (repeat' (first | (refine arith_i ⟨by omega, by omega⟩ ?_; conv => whnf) | (refine arith_u ⟨by omega, by omega⟩ ?_; conv => whnf) | (refine arith_8 ⟨by omega, by omega⟩ ?_; conv => whnf) | (refine need_i (by first | omega | (simp only [List.length_cons, List.length_nil]; omega) | (simp only [List.length_append, List.length_cons, List.length_nil, List.length_map, List.length_replicate, List.length_modify]; omega)) ?_; conv => whnf) | ((with_reducible first | refine branch_tt ?_ | refine branch_ff ?_); conv => whnf) | (with_reducible refine branch_not ?_) | ((refine idx_cs hx ?_); conv => whnf) | ((refine idx_cs hy ?_); conv => whnf) | ((with_reducible first | refine slc_e ?_ | refine callS_a ?_ | refine bld_a ?_ | refine own_e ?_ | refine mkmap_b ?_ | refine lnk_a ?_); conv => whnf) | (refine draw_i 18 plGL26u_0 (by decide +kernel) ?_; (conv => whnf); fail_if_success (guard_target =~ False)) | (refine draw_i 18 plGL26u_3 (by decide +kernel) ?_; (conv => whnf); fail_if_success (guard_target =~ False)) | ((with_reducible refine And.intro ?_ ?_) <;> (conv => whnf)) | (with_reducible exact trivial) | ((with_reducible first | refine branch_d (fun hq => ?_) (fun hq => ?_) | refine branch_e (fun hq => ?_) (fun hq => ?_) | refine branch_n (fun hq => ?_) (fun hq => ?_) | refine branch_i (fun hq => ?_) (fun hq => ?_)) <;> (try (exfalso; omega)) <;> (conv => whnf))))
    all_goals first | exact ret_p rfl (bool_eq (hbad (by omega)).symm) | exact ⟨k + 1, ⟨by omega, by rw [hnx, Bool.and_eq_true, decide_eq_true_eq, decide_eq_true_eq]; omega⟩, (le_mk (by repeat' (first | exact trivial | rfl | apply And.intro)) (by repeat' (first | exact trivial | rfl | apply And.intro)) rfl), by omega⟩
  · (conv => whnf); (repeat' (first | (refine arith_i ⟨by omega, by omega⟩ ?_; conv => whnf) | (refine arith_u ⟨by omega, by omega⟩ ?_; conv => whnf) | (refine arith_8 ⟨by omega, by omega⟩ ?_; conv => whnf) | (refine need_i (by first | omega | (simp only [List.length_cons, List.length_nil]; omega) | (simp only [List.length_append, List.length_cons, List.length_nil, List.length_map, List.length_replicate, List.length_modify]; omega)) ?_; conv => whnf) | ((with_reducible first | refine branch_tt ?_ | refine branch_ff ?_); conv => whnf) | (with_reducible refine branch_not ?_) | ((with_reducible first | refine slc_e ?_ | refine callS_a ?_ | refine bld_a ?_ | refine own_e ?_ | refine mkmap_b ?_ | refine lnk_a ?_); conv => whnf) | (refine draw_i 18 plGL26u_0 (by decide +kernel) ?_; (conv => whnf); fail_if_success (guard_target =~ False)) | (refine draw_i 18 plGL26u_3 (by decide +kernel) ?_; (conv => whnf); fail_if_success (guard_target =~ False)) | ((with_reducible refine And.intro ?_ ?_) <;> (conv => whnf)) | (with_reducible exact trivial) | ((with_reducible first | refine branch_d (fun hq => ?_) (fun hq => ?_) | refine branch_e (fun hq => ?_) (fun hq => ?_) | refine branch_n (fun hq => ?_) (fun hq => ?_) | refine branch_i (fun hq => ?_) (fun hq => ?_)) <;> (try (exfalso; omega)) <;> (conv => whnf))))
    obtain rfl : k = p.parts.length := by omega
    rw [hv]
    exact ret_p rfl rfl
set_option maxHeartbeats 4000000 in
theorem rCheck26_ok (s : List Scr) (ps : List Pap) (k : Int) (sds : List Sed) (hs : ScsOk s) (hps : ps.length ≤ 1000) (hpo : ∀ (k : Nat) (p : Pap), ps[k]? = some p → p.parts.length ≤ 1000) (hsl : sds.length ≤ 1000) (hsm : ∀ (k : Nat) (y : Sed), sds[k]? = some y → y.marks.length ≤ 17592186044416) : Good Try.prog TT false 19 [scrsV s, .lst 3 (ps.map encPap), .int .i64 k, sedsV sds] (· = .int .i64 (check26V s ps k sds)) := by
  have LS : (s.map encR).length = s.length := List.length_map ..
  have LP : (ps.map encPap).length = ps.length := List.length_map ..
  have LD : (sds.map encSd).length = sds.length := List.length_map ..
  refine good_of mixed tabOk Try.func19 rfl rfl Try.ntmps19 Try.results19 rfl rfl ?_
  (conv => whnf); (repeat' (first | (refine arith_i ⟨by omega, by omega⟩ ?_; conv => whnf) | (refine arith_u ⟨by omega, by omega⟩ ?_; conv => whnf) | (refine arith_8 ⟨by omega, by omega⟩ ?_; conv => whnf) | (refine need_i (by first | omega | (simp only [List.length_cons, List.length_nil]; omega) | (simp only [List.length_append, List.length_cons, List.length_nil, List.length_map, List.length_replicate, List.length_modify]; omega)) ?_; conv => whnf) | ((with_reducible first | refine branch_tt ?_ | refine branch_ff ?_); conv => whnf) | (with_reducible refine branch_not ?_) | ((refine call_e (rCheckS_ok s hs) ?_); conv => whnf) | ((refine call_e (rCommon_ok s k hs) ?_); conv => whnf) | ((with_reducible first | refine slc_e ?_ | refine callS_a ?_ | refine bld_a ?_ | refine own_e ?_ | refine mkmap_b ?_ | refine lnk_a ?_); conv => whnf) | (refine draw_i 16 plGL26u_4 (by decide +kernel) ?_; (conv => whnf); fail_if_success (guard_target =~ False)) | (refine draw_i 16 plGL26u_5 (by decide +kernel) ?_; (conv => whnf); fail_if_success (guard_target =~ False)) | (refine draw_i 15 plGL26u_6 (by decide +kernel) ?_; (conv => whnf); fail_if_success (guard_target =~ False)) | (refine draw_i 15 plGL26u_7 (by decide +kernel) ?_; (conv => whnf); fail_if_success (guard_target =~ False)) | ((with_reducible refine And.intro ?_ ?_) <;> (conv => whnf)) | (with_reducible exact trivial) | ((with_reducible first | refine branch_d (fun hq => ?_) (fun hq => ?_) | refine branch_e (fun hq => ?_) (fun hq => ?_) | refine branch_n (fun hq => ?_) (fun hq => ?_) | refine branch_i (fun hq => ?_) (fun hq => ?_)) <;> (try (exfalso; omega)) <;> (conv => whnf))))
  · exact ret_p rfl (int_eq (by unfold check26V; rw [if_pos hq]))
  · exact ret_p rfl (int_eq (by unfold check26V; rw [if_neg (by assumption), if_pos (by omega)]))
  have hV : check26V s ps k sds = chkE s ps k sds sds.length := by unfold check26V; rw [if_neg (by assumption), if_neg (by omega)]
  rw [hV]
  have hcl := commF_len (s := s) (k := k)
  have h60 := hs.len
  refine loop_i (fun i : Nat => i ≤ sds.length ∧ chkE s ps k sds i = 0) (fun i => mkSt [(0, scrsV s), (1, .lst 3 (ps.map encPap)), (3, sedsV sds), (10, ints (commF s k)), (11, .int .i64 i)] [] false) (fun i => sds.length - i) 0 ⟨Nat.zero_le _, rfl⟩ (Le.trans (le_erase 28) (le_mk ⟨rfl, rfl, rfl, rfl, rfl, trivial⟩ trivial rfl)) ?_
  rintro i ⟨hi, hz⟩
  rcases Nat.lt_or_ge i sds.length with hil | hil
  · obtain ⟨y, hy⟩ : ∃ y, sds[i]? = some y := ⟨_, List.getElem?_eq_getElem hil⟩
    have hnx := chk_next hz
    have hbad : ∀ e : Int, seedE s ps k sds i = e → e ≠ 0 → AV.int .i64 e = .int .i64 (chkE s ps k sds sds.length) := fun e he h0 => int_eq (by rw [chkE_bad (i := i + 1) (by omega) (by rw [hnx, he]; exact h0), hnx, he])
    have hsd : seedE s ps k sds i = if hasP (commF s k) y.script = false then 4 else if 0 < i ∧ y.script ≤ prevS sds i then 43 else match papF ps (scrN s y.script) with
      | none => 1
      | some q => if mvB q y.marks = true then 0 else 1 := by unfold seedE; rw [hy]; rfl
    have hCT := rHas_ok (commF s k) y.script (by omega)
    cases hc : hasP (commF s k) y.script with
    | false =>
      rw [hc, if_pos rfl] at hsd
      rw [hc] at hCT
      (conv => whnf); (repeat' (first | (refine arith_i ⟨by omega, by omega⟩ ?_; conv => whnf) | (refine arith_u ⟨by omega, by omega⟩ ?_; conv => whnf) | (refine arith_8 ⟨by omega, by omega⟩ ?_; conv => whnf) | (refine need_i (by first | omega | (simp only [List.length_cons, List.length_nil]; omega) | (simp only [List.length_append, List.length_cons, List.length_nil, List.length_map, List.length_replicate, List.length_modify]; omega)) ?_; conv => whnf) | ((with_reducible first | refine branch_tt ?_ | refine branch_ff ?_); conv => whnf) | (with_reducible refine branch_not ?_) | ((refine idx_cs hy ?_); conv => whnf) | ((refine call_e hCT ?_); conv => whnf) | ((with_reducible first | refine slc_e ?_ | refine callS_a ?_ | refine bld_a ?_ | refine own_e ?_ | refine mkmap_b ?_ | refine lnk_a ?_); conv => whnf) | (refine draw_i 16 plGL26u_4 (by decide +kernel) ?_; (conv => whnf); fail_if_success (guard_target =~ False)) | (refine draw_i 16 plGL26u_5 (by decide +kernel) ?_; (conv => whnf); fail_if_success (guard_target =~ False)) | (refine draw_i 15 plGL26u_6 (by decide +kernel) ?_; (conv => whnf); fail_if_success (guard_target =~ False)) | (refine draw_i 15 plGL26u_7 (by decide +kernel) ?_; (conv => whnf); fail_if_success (guard_target =~ False)) | ((with_reducible refine And.intro ?_ ?_) <;> (conv => whnf)) | (with_reducible exact trivial) | ((with_reducible first | refine branch_d (fun hq => ?_) (fun hq => ?_) | refine branch_e (fun hq => ?_) (fun hq => ?_) | refine branch_n (fun hq => ?_) (fun hq => ?_) | refine branch_i (fun hq => ?_) (fun hq => ?_)) <;> (try (exfalso; omega)) <;> (conv => whnf))))
      exact ret_p rfl (hbad 4 hsd (by decide))
    | true =>
      rw [hc, if_neg (by simp)] at hsd
      rw [hc] at hCT
      obtain ⟨p, x, hf, hx, hn, hsn⟩ := comm_find hs hc
      rw [hsn, papF_idx] at hsd
      have hScr : Good Try.prog TT false 45 [scrsV s, .int .i64 y.script] (· = .tup [.agg (encR x), .bool true]) := (rScript_ok s y.script hs).mono fun r h => by
        unfold ScriptR at h; rw [hf] at h; obtain ⟨x', hx', h⟩ := h; rw [hx] at hx'; injection hx' with hx'; rw [hx']; exact h
      have hIP := rPaper_ok ps x hps
      have hym := hsm i y hy
      have hend : (¬ (0 < i ∧ y.script ≤ prevS sds i)) → (idxPap ps x = none → AV.int .i64 1 = .int .i64 (chkE s ps k sds sds.length)) ∧ ∀ j q, idxPap ps x = some j → ps[j]? = some q → (mvB q y.marks = false → AV.int .i64 1 = .int .i64 (chkE s ps k sds sds.length)) ∧ (mvB q y.marks = true → chkE s ps k sds (i + 1) = 0) := fun ho => by
        rw [if_neg ho] at hsd
        refine ⟨fun h => ?_, fun j q hj hq => ⟨fun h => ?_, fun h => ?_⟩⟩
        · rw [h] at hsd; exact hbad 1 hsd (by decide)
        · rw [hj, Option.bind_some, hq] at hsd; simp only [h] at hsd; exact hbad 1 hsd (by decide)
        · rw [hj, Option.bind_some, hq] at hsd; simp only [h, if_true] at hsd; rw [hnx, hsd]
      have hpat : ∀ j, idxPap ps x = some j → ∃ q, ps[j]? = some q := fun j h => by
        unfold idxPap at h
        rw [List.findIdx?_eq_some_iff_getElem] at h
        exact ⟨_, List.getElem?_eq_getElem h.1⟩
      have hprev : ∃ z : Sed, (0 < i → sds[i - 1]? = some z ∧ prevS sds i = z.script) := by
        rcases Nat.eq_zero_or_pos i with h0 | h0
        · exact ⟨y, fun h => by omega⟩
        · obtain ⟨z, hzp⟩ : ∃ z, sds[i - 1]? = some z := ⟨_, List.getElem?_eq_getElem (by omega)⟩
          exact ⟨z, fun _ => ⟨hzp, by unfold prevS; rw [hzp]⟩⟩
      obtain ⟨z, hzp⟩ := hprev
      by_cases ho : 0 < i ∧ y.script ≤ prevS sds i
      · rw [if_pos ho] at hsd
        obtain ⟨hzq, hpv⟩ := hzp ho.1
        rw [hpv] at ho
        (conv => whnf); (repeat' (first | (refine arith_i ⟨by omega, by omega⟩ ?_; conv => whnf) | (refine arith_u ⟨by omega, by omega⟩ ?_; conv => whnf) | (refine arith_8 ⟨by omega, by omega⟩ ?_; conv => whnf) | (refine need_i (by first | omega | (simp only [List.length_cons, List.length_nil]; omega) | (simp only [List.length_append, List.length_cons, List.length_nil, List.length_map, List.length_replicate, List.length_modify]; omega)) ?_; conv => whnf) | ((with_reducible first | refine branch_tt ?_ | refine branch_ff ?_); conv => whnf) | (with_reducible refine branch_not ?_) | ((refine idx_cs hy ?_); conv => whnf) | ((refine idx_ms (by omega) (by rw [show ((i : Int) - 1).toNat = i - 1 by omega]; exact hzq) ?_); conv => whnf) | ((refine call_e hScr ?_); conv => whnf) | ((refine call_e hCT ?_); conv => whnf) | ((with_reducible first | refine slc_e ?_ | refine callS_a ?_ | refine bld_a ?_ | refine own_e ?_ | refine mkmap_b ?_ | refine lnk_a ?_); conv => whnf) | (refine draw_i 16 plGL26u_4 (by decide +kernel) ?_; (conv => whnf); fail_if_success (guard_target =~ False)) | (refine draw_i 16 plGL26u_5 (by decide +kernel) ?_; (conv => whnf); fail_if_success (guard_target =~ False)) | (refine draw_i 15 plGL26u_6 (by decide +kernel) ?_; (conv => whnf); fail_if_success (guard_target =~ False)) | (refine draw_i 15 plGL26u_7 (by decide +kernel) ?_; (conv => whnf); fail_if_success (guard_target =~ False)) | ((with_reducible refine And.intro ?_ ?_) <;> (conv => whnf)) | (with_reducible exact trivial) | ((with_reducible first | refine branch_d (fun hq => ?_) (fun hq => ?_) | refine branch_e (fun hq => ?_) (fun hq => ?_) | refine branch_n (fun hq => ?_) (fun hq => ?_) | refine branch_i (fun hq => ?_) (fun hq => ?_)) <;> (try (exfalso; omega)) <;> (conv => whnf))))
        all_goals exact ret_p rfl (hbad 43 hsd (by decide))
      · obtain ⟨hE1, hE2⟩ := hend ho
        have ho2 : 0 < i → ¬ y.script ≤ z.script := fun h => by
          have := hzp h
          rw [this.2] at ho
          exact fun g => ho ⟨h, g⟩
        cases hj : idxPap ps x with
        | none =>
          rw [hj] at hIP
          rcases Nat.eq_zero_or_pos i with hi0 | hi0
          · (conv => whnf); (repeat' (first | (refine arith_i ⟨by omega, by omega⟩ ?_; conv => whnf) | (refine arith_u ⟨by omega, by omega⟩ ?_; conv => whnf) | (refine arith_8 ⟨by omega, by omega⟩ ?_; conv => whnf) | (refine need_i (by first | omega | (simp only [List.length_cons, List.length_nil]; omega) | (simp only [List.length_append, List.length_cons, List.length_nil, List.length_map, List.length_replicate, List.length_modify]; omega)) ?_; conv => whnf) | ((with_reducible first | refine branch_tt ?_ | refine branch_ff ?_); conv => whnf) | (with_reducible refine branch_not ?_) | ((refine idx_cs hy ?_); conv => whnf) | ((refine call_e hScr ?_); conv => whnf) | ((refine call_e hCT ?_); conv => whnf) | ((refine call_e hIP ?_); conv => whnf) | ((with_reducible first | refine slc_e ?_ | refine callS_a ?_ | refine bld_a ?_ | refine own_e ?_ | refine mkmap_b ?_ | refine lnk_a ?_); conv => whnf) | (refine draw_i 16 plGL26u_4 (by decide +kernel) ?_; (conv => whnf); fail_if_success (guard_target =~ False)) | (refine draw_i 16 plGL26u_5 (by decide +kernel) ?_; (conv => whnf); fail_if_success (guard_target =~ False)) | (refine draw_i 15 plGL26u_6 (by decide +kernel) ?_; (conv => whnf); fail_if_success (guard_target =~ False)) | (refine draw_i 15 plGL26u_7 (by decide +kernel) ?_; (conv => whnf); fail_if_success (guard_target =~ False)) | ((with_reducible refine And.intro ?_ ?_) <;> (conv => whnf)) | (with_reducible exact trivial) | ((with_reducible first | refine branch_d (fun hq => ?_) (fun hq => ?_) | refine branch_e (fun hq => ?_) (fun hq => ?_) | refine branch_n (fun hq => ?_) (fun hq => ?_) | refine branch_i (fun hq => ?_) (fun hq => ?_)) <;> (try (exfalso; omega)) <;> (conv => whnf))))
            all_goals exact ret_p rfl (hE1 hj)
          · have hzq := (hzp hi0).1
            have ho3 := ho2 hi0
            (conv => whnf); (repeat' (first | (refine arith_i ⟨by omega, by omega⟩ ?_; conv => whnf) | (refine arith_u ⟨by omega, by omega⟩ ?_; conv => whnf) | (refine arith_8 ⟨by omega, by omega⟩ ?_; conv => whnf) | (refine need_i (by first | omega | (simp only [List.length_cons, List.length_nil]; omega) | (simp only [List.length_append, List.length_cons, List.length_nil, List.length_map, List.length_replicate, List.length_modify]; omega)) ?_; conv => whnf) | ((with_reducible first | refine branch_tt ?_ | refine branch_ff ?_); conv => whnf) | (with_reducible refine branch_not ?_) | ((refine idx_cs hy ?_); conv => whnf) | ((refine idx_ms (by omega) (by rw [show ((i : Int) - 1).toNat = i - 1 by omega]; exact hzq) ?_); conv => whnf) | ((refine call_e hScr ?_); conv => whnf) | ((refine call_e hCT ?_); conv => whnf) | ((refine call_e hIP ?_); conv => whnf) | ((with_reducible first | refine slc_e ?_ | refine callS_a ?_ | refine bld_a ?_ | refine own_e ?_ | refine mkmap_b ?_ | refine lnk_a ?_); conv => whnf) | (refine draw_i 16 plGL26u_4 (by decide +kernel) ?_; (conv => whnf); fail_if_success (guard_target =~ False)) | (refine draw_i 16 plGL26u_5 (by decide +kernel) ?_; (conv => whnf); fail_if_success (guard_target =~ False)) | (refine draw_i 15 plGL26u_6 (by decide +kernel) ?_; (conv => whnf); fail_if_success (guard_target =~ False)) | (refine draw_i 15 plGL26u_7 (by decide +kernel) ?_; (conv => whnf); fail_if_success (guard_target =~ False)) | ((with_reducible refine And.intro ?_ ?_) <;> (conv => whnf)) | (with_reducible exact trivial) | ((with_reducible first | refine branch_d (fun hq => ?_) (fun hq => ?_) | refine branch_e (fun hq => ?_) (fun hq => ?_) | refine branch_n (fun hq => ?_) (fun hq => ?_) | refine branch_i (fun hq => ?_) (fun hq => ?_)) <;> (try (exfalso; omega)) <;> (conv => whnf))))
            all_goals exact ret_p rfl (hE1 hj)
        | some j =>
          rw [hj] at hIP
          obtain ⟨q, hqj⟩ := hpat j hj
          obtain ⟨hE3, hE4⟩ := hE2 j q hj hqj
          have hVM := rFits_ok q y.marks (hpo j q hqj) hym
          cases hmb : mvB q y.marks with
          | true =>
            rw [hmb] at hVM
            rcases Nat.eq_zero_or_pos i with hi0 | hi0
            · (conv => whnf); (repeat' (first | (refine arith_i ⟨by omega, by omega⟩ ?_; conv => whnf) | (refine arith_u ⟨by omega, by omega⟩ ?_; conv => whnf) | (refine arith_8 ⟨by omega, by omega⟩ ?_; conv => whnf) | (refine need_i (by first | omega | (simp only [List.length_cons, List.length_nil]; omega) | (simp only [List.length_append, List.length_cons, List.length_nil, List.length_map, List.length_replicate, List.length_modify]; omega)) ?_; conv => whnf) | ((with_reducible first | refine branch_tt ?_ | refine branch_ff ?_); conv => whnf) | (with_reducible refine branch_not ?_) | ((refine idx_cs hy ?_); conv => whnf) | ((refine call_e hScr ?_); conv => whnf) | ((refine call_e hCT ?_); conv => whnf) | ((refine call_e hIP ?_); conv => whnf) | ((refine idx_cs hqj ?_); conv => whnf) | ((refine call_e hVM ?_); conv => whnf) | ((with_reducible first | refine slc_e ?_ | refine callS_a ?_ | refine bld_a ?_ | refine own_e ?_ | refine mkmap_b ?_ | refine lnk_a ?_); conv => whnf) | (refine draw_i 16 plGL26u_4 (by decide +kernel) ?_; (conv => whnf); fail_if_success (guard_target =~ False)) | (refine draw_i 16 plGL26u_5 (by decide +kernel) ?_; (conv => whnf); fail_if_success (guard_target =~ False)) | (refine draw_i 15 plGL26u_6 (by decide +kernel) ?_; (conv => whnf); fail_if_success (guard_target =~ False)) | (refine draw_i 15 plGL26u_7 (by decide +kernel) ?_; (conv => whnf); fail_if_success (guard_target =~ False)) | ((with_reducible refine And.intro ?_ ?_) <;> (conv => whnf)) | (with_reducible exact trivial) | ((with_reducible first | refine branch_d (fun hq => ?_) (fun hq => ?_) | refine branch_e (fun hq => ?_) (fun hq => ?_) | refine branch_n (fun hq => ?_) (fun hq => ?_) | refine branch_i (fun hq => ?_) (fun hq => ?_)) <;> (try (exfalso; omega)) <;> (conv => whnf))))
              all_goals exact ⟨i + 1, ⟨by omega, hE4 hmb⟩, (le_mk (by repeat' (first | exact trivial | rfl | apply And.intro)) (by repeat' (first | exact trivial | rfl | apply And.intro)) rfl), by omega⟩
            · have hzq := (hzp hi0).1
              have ho3 := ho2 hi0
              (conv => whnf); (repeat' (first | (refine arith_i ⟨by omega, by omega⟩ ?_; conv => whnf) | (refine arith_u ⟨by omega, by omega⟩ ?_; conv => whnf) | (refine arith_8 ⟨by omega, by omega⟩ ?_; conv => whnf) | (refine need_i (by first | omega | (simp only [List.length_cons, List.length_nil]; omega) | (simp only [List.length_append, List.length_cons, List.length_nil, List.length_map, List.length_replicate, List.length_modify]; omega)) ?_; conv => whnf) | ((with_reducible first | refine branch_tt ?_ | refine branch_ff ?_); conv => whnf) | (with_reducible refine branch_not ?_) | ((refine idx_cs hy ?_); conv => whnf) | ((refine idx_ms (by omega) (by rw [show ((i : Int) - 1).toNat = i - 1 by omega]; exact hzq) ?_); conv => whnf) | ((refine call_e hScr ?_); conv => whnf) | ((refine call_e hCT ?_); conv => whnf) | ((refine call_e hIP ?_); conv => whnf) | ((refine idx_cs hqj ?_); conv => whnf) | ((refine call_e hVM ?_); conv => whnf) | ((with_reducible first | refine slc_e ?_ | refine callS_a ?_ | refine bld_a ?_ | refine own_e ?_ | refine mkmap_b ?_ | refine lnk_a ?_); conv => whnf) | (refine draw_i 16 plGL26u_4 (by decide +kernel) ?_; (conv => whnf); fail_if_success (guard_target =~ False)) | (refine draw_i 16 plGL26u_5 (by decide +kernel) ?_; (conv => whnf); fail_if_success (guard_target =~ False)) | (refine draw_i 15 plGL26u_6 (by decide +kernel) ?_; (conv => whnf); fail_if_success (guard_target =~ False)) | (refine draw_i 15 plGL26u_7 (by decide +kernel) ?_; (conv => whnf); fail_if_success (guard_target =~ False)) | ((with_reducible refine And.intro ?_ ?_) <;> (conv => whnf)) | (with_reducible exact trivial) | ((with_reducible first | refine branch_d (fun hq => ?_) (fun hq => ?_) | refine branch_e (fun hq => ?_) (fun hq => ?_) | refine branch_n (fun hq => ?_) (fun hq => ?_) | refine branch_i (fun hq => ?_) (fun hq => ?_)) <;> (try (exfalso; omega)) <;> (conv => whnf))))
              all_goals exact ⟨i + 1, ⟨by omega, hE4 hmb⟩, (le_mk (by repeat' (first | exact trivial | rfl | apply And.intro)) (by repeat' (first | exact trivial | rfl | apply And.intro)) rfl), by omega⟩
          | false =>
            rw [hmb] at hVM
            rcases Nat.eq_zero_or_pos i with hi0 | hi0
            · (conv => whnf); (repeat' (first | (refine arith_i ⟨by omega, by omega⟩ ?_; conv => whnf) | (refine arith_u ⟨by omega, by omega⟩ ?_; conv => whnf) | (refine arith_8 ⟨by omega, by omega⟩ ?_; conv => whnf) | (refine need_i (by first | omega | (simp only [List.length_cons, List.length_nil]; omega) | (simp only [List.length_append, List.length_cons, List.length_nil, List.length_map, List.length_replicate, List.length_modify]; omega)) ?_; conv => whnf) | ((with_reducible first | refine branch_tt ?_ | refine branch_ff ?_); conv => whnf) | (with_reducible refine branch_not ?_) | ((refine idx_cs hy ?_); conv => whnf) | ((refine call_e hScr ?_); conv => whnf) | ((refine call_e hCT ?_); conv => whnf) | ((refine call_e hIP ?_); conv => whnf) | ((refine idx_cs hqj ?_); conv => whnf) | ((refine call_e hVM ?_); conv => whnf) | ((with_reducible first | refine slc_e ?_ | refine callS_a ?_ | refine bld_a ?_ | refine own_e ?_ | refine mkmap_b ?_ | refine lnk_a ?_); conv => whnf) | (refine draw_i 16 plGL26u_4 (by decide +kernel) ?_; (conv => whnf); fail_if_success (guard_target =~ False)) | (refine draw_i 16 plGL26u_5 (by decide +kernel) ?_; (conv => whnf); fail_if_success (guard_target =~ False)) | (refine draw_i 15 plGL26u_6 (by decide +kernel) ?_; (conv => whnf); fail_if_success (guard_target =~ False)) | (refine draw_i 15 plGL26u_7 (by decide +kernel) ?_; (conv => whnf); fail_if_success (guard_target =~ False)) | ((with_reducible refine And.intro ?_ ?_) <;> (conv => whnf)) | (with_reducible exact trivial) | ((with_reducible first | refine branch_d (fun hq => ?_) (fun hq => ?_) | refine branch_e (fun hq => ?_) (fun hq => ?_) | refine branch_n (fun hq => ?_) (fun hq => ?_) | refine branch_i (fun hq => ?_) (fun hq => ?_)) <;> (try (exfalso; omega)) <;> (conv => whnf))))
              all_goals exact ret_p rfl (hE3 hmb)
            · have hzq := (hzp hi0).1
              have ho3 := ho2 hi0
              (conv => whnf); (repeat' (first | (refine arith_i ⟨by omega, by omega⟩ ?_; conv => whnf) | (refine arith_u ⟨by omega, by omega⟩ ?_; conv => whnf) | (refine arith_8 ⟨by omega, by omega⟩ ?_; conv => whnf) | (refine need_i (by first | omega | (simp only [List.length_cons, List.length_nil]; omega) | (simp only [List.length_append, List.length_cons, List.length_nil, List.length_map, List.length_replicate, List.length_modify]; omega)) ?_; conv => whnf) | ((with_reducible first | refine branch_tt ?_ | refine branch_ff ?_); conv => whnf) | (with_reducible refine branch_not ?_) | ((refine idx_cs hy ?_); conv => whnf) | ((refine idx_ms (by omega) (by rw [show ((i : Int) - 1).toNat = i - 1 by omega]; exact hzq) ?_); conv => whnf) | ((refine call_e hScr ?_); conv => whnf) | ((refine call_e hCT ?_); conv => whnf) | ((refine call_e hIP ?_); conv => whnf) | ((refine idx_cs hqj ?_); conv => whnf) | ((refine call_e hVM ?_); conv => whnf) | ((with_reducible first | refine slc_e ?_ | refine callS_a ?_ | refine bld_a ?_ | refine own_e ?_ | refine mkmap_b ?_ | refine lnk_a ?_); conv => whnf) | (refine draw_i 16 plGL26u_4 (by decide +kernel) ?_; (conv => whnf); fail_if_success (guard_target =~ False)) | (refine draw_i 16 plGL26u_5 (by decide +kernel) ?_; (conv => whnf); fail_if_success (guard_target =~ False)) | (refine draw_i 15 plGL26u_6 (by decide +kernel) ?_; (conv => whnf); fail_if_success (guard_target =~ False)) | (refine draw_i 15 plGL26u_7 (by decide +kernel) ?_; (conv => whnf); fail_if_success (guard_target =~ False)) | ((with_reducible refine And.intro ?_ ?_) <;> (conv => whnf)) | (with_reducible exact trivial) | ((with_reducible first | refine branch_d (fun hq => ?_) (fun hq => ?_) | refine branch_e (fun hq => ?_) (fun hq => ?_) | refine branch_n (fun hq => ?_) (fun hq => ?_) | refine branch_i (fun hq => ?_) (fun hq => ?_)) <;> (try (exfalso; omega)) <;> (conv => whnf))))
              all_goals exact ret_p rfl (hE3 hmb)
  · (conv => whnf); (repeat' (first | (refine arith_i ⟨by omega, by omega⟩ ?_; conv => whnf) | (refine arith_u ⟨by omega, by omega⟩ ?_; conv => whnf) | (refine arith_8 ⟨by omega, by omega⟩ ?_; conv => whnf) | (refine need_i (by first | omega | (simp only [List.length_cons, List.length_nil]; omega) | (simp only [List.length_append, List.length_cons, List.length_nil, List.length_map, List.length_replicate, List.length_modify]; omega)) ?_; conv => whnf) | ((with_reducible first | refine branch_tt ?_ | refine branch_ff ?_); conv => whnf) | (with_reducible refine branch_not ?_) | ((with_reducible first | refine slc_e ?_ | refine callS_a ?_ | refine bld_a ?_ | refine own_e ?_ | refine mkmap_b ?_ | refine lnk_a ?_); conv => whnf) | (refine draw_i 16 plGL26u_4 (by decide +kernel) ?_; (conv => whnf); fail_if_success (guard_target =~ False)) | (refine draw_i 16 plGL26u_5 (by decide +kernel) ?_; (conv => whnf); fail_if_success (guard_target =~ False)) | (refine draw_i 15 plGL26u_6 (by decide +kernel) ?_; (conv => whnf); fail_if_success (guard_target =~ False)) | (refine draw_i 15 plGL26u_7 (by decide +kernel) ?_; (conv => whnf); fail_if_success (guard_target =~ False)) | ((with_reducible refine And.intro ?_ ?_) <;> (conv => whnf)) | (with_reducible exact trivial) | ((with_reducible first | refine branch_d (fun hq => ?_) (fun hq => ?_) | refine branch_e (fun hq => ?_) (fun hq => ?_) | refine branch_n (fun hq => ?_) (fun hq => ?_) | refine branch_i (fun hq => ?_) (fun hq => ?_)) <;> (try (exfalso; omega)) <;> (conv => whnf))))
    obtain rfl : i = sds.length := by omega
    exact ret_p rfl (int_eq hz.symm)
end Go.Proofs.Ythgnomniboindaa
end

/- Layer 26: views of the reference; whether lists are equal. -/
section
namespace Go.Proofs.Ythgnomniboindaa
set_option linter.unusedVariables false
set_option linter.unusedSimpArgs false
set_option linter.unnecessarySimpa false
set_option linter.unusedSectionVars false
set_option maxRecDepth 10000
open Go.RowKit
def plGL26m_2 : Plan := (.take 0 (.take 1 (.take 2 (.take 3 (.take 4 (.take 5 (.take 6 (.take 7 (.take 8 (.take 9 (.take 10 (.take 11 (.take 12 (.take 13 (.take 14 (.take 15 (.take 16 (.take 17 (.take 18 (.take 19 (.take 20 (.take 21 (.take 22 (.take 23 (.take 24 (.take 25 (.take 26 (.take 27 (.take 28 (.take 29 (.take 30 (.take 31 (.take 32 (.take 33 (.take 34 (.take 35 (.take 36 (.take 37 (.take 38 (.take 39 (.take 40 (.take 41 (.take 42 (.take 43 (.take 44 (.take 45 (.take 46 (.take 47 (.alt 48 (.take 49 (.take 50 .done)) .stop)))))))))))))))))))))))))))))))))))))))))))))))))
def plGL26m_3 : Plan := (.take 0 (.take 1 (.take 2 (.take 3 (.take 5 (.take 6 (.take 7 (.take 8 (.alt 4 (.alt 9 (.take 10 (.take 11 (.take 12 (.take 13 (.take 14 (.take 15 (.take 17 (.take 18 (.take 19 (.take 20 (.alt 16 (.alt 21 (.take 22 (.take 23 (.take 24 (.take 25 (.take 26 (.take 27 (.take 28 (.take 30 (.take 31 (.take 32 (.take 33 (.alt 29 (.alt 34 (.take 35 (.take 36 (.take 37 (.take 38 (.take 39 (.take 40 (.take 41 (.take 43 (.take 44 (.take 45 (.take 46 (.alt 42 (.alt 47 (.alt 48 (.take 49 (.take 50 .done)) .stop) .stop) (.alt 47 (.alt 42 (.alt 48 (.take 49 (.take 50 .done)) .stop) .stop) .stop))))))))))))) .stop) (.alt 34 (.alt 29 (.take 35 (.take 36 (.take 37 (.take 38 (.take 39 (.take 40 (.take 41 (.take 43 (.take 44 (.take 45 (.take 46 (.alt 42 (.alt 47 (.alt 48 (.take 49 (.take 50 .done)) .stop) .stop) (.alt 47 (.alt 42 (.alt 48 (.take 49 (.take 50 .done)) .stop) .stop) .stop))))))))))))) .stop) .stop))))))))))))) .stop) (.alt 21 (.alt 16 (.take 22 (.take 23 (.take 24 (.take 25 (.take 26 (.take 27 (.take 28 (.take 30 (.take 31 (.take 32 (.take 33 (.alt 29 (.alt 34 (.take 35 (.take 36 (.take 37 (.take 38 (.take 39 (.take 40 (.take 41 (.take 43 (.take 44 (.take 45 (.take 46 (.alt 42 (.alt 47 (.alt 48 (.take 49 (.take 50 .done)) .stop) .stop) (.alt 47 (.alt 42 (.alt 48 (.take 49 (.take 50 .done)) .stop) .stop) .stop))))))))))))) .stop) (.alt 34 (.alt 29 (.take 35 (.take 36 (.take 37 (.take 38 (.take 39 (.take 40 (.take 41 (.take 43 (.take 44 (.take 45 (.take 46 (.alt 42 (.alt 47 (.alt 48 (.take 49 (.take 50 .done)) .stop) .stop) (.alt 47 (.alt 42 (.alt 48 (.take 49 (.take 50 .done)) .stop) .stop) .stop))))))))))))) .stop) .stop))))))))))))) .stop) .stop)))))))))))) .stop) (.alt 9 (.alt 4 (.take 10 (.take 11 (.take 12 (.take 13 (.take 14 (.take 15 (.take 17 (.take 18 (.take 19 (.take 20 (.alt 16 (.alt 21 (.take 22 (.take 23 (.take 24 (.take 25 (.take 26 (.take 27 (.take 28 (.take 30 (.take 31 (.take 32 (.take 33 (.alt 29 (.alt 34 (.take 35 (.take 36 (.take 37 (.take 38 (.take 39 (.take 40 (.take 41 (.take 43 (.take 44 (.take 45 (.take 46 (.alt 42 (.alt 47 (.alt 48 (.take 49 (.take 50 .done)) .stop) .stop) (.alt 47 (.alt 42 (.alt 48 (.take 49 (.take 50 .done)) .stop) .stop) .stop))))))))))))) .stop) (.alt 34 (.alt 29 (.take 35 (.take 36 (.take 37 (.take 38 (.take 39 (.take 40 (.take 41 (.take 43 (.take 44 (.take 45 (.take 46 (.alt 42 (.alt 47 (.alt 48 (.take 49 (.take 50 .done)) .stop) .stop) (.alt 47 (.alt 42 (.alt 48 (.take 49 (.take 50 .done)) .stop) .stop) .stop))))))))))))) .stop) .stop))))))))))))) .stop) (.alt 21 (.alt 16 (.take 22 (.take 23 (.take 24 (.take 25 (.take 26 (.take 27 (.take 28 (.take 30 (.take 31 (.take 32 (.take 33 (.alt 29 (.alt 34 (.take 35 (.take 36 (.take 37 (.take 38 (.take 39 (.take 40 (.take 41 (.take 43 (.take 44 (.take 45 (.take 46 (.alt 42 (.alt 47 (.alt 48 (.take 49 (.take 50 .done)) .stop) .stop) (.alt 47 (.alt 42 (.alt 48 (.take 49 (.take 50 .done)) .stop) .stop) .stop))))))))))))) .stop) (.alt 34 (.alt 29 (.take 35 (.take 36 (.take 37 (.take 38 (.take 39 (.take 40 (.take 41 (.take 43 (.take 44 (.take 45 (.take 46 (.alt 42 (.alt 47 (.alt 48 (.take 49 (.take 50 .done)) .stop) .stop) (.alt 47 (.alt 42 (.alt 48 (.take 49 (.take 50 .done)) .stop) .stop) .stop))))))))))))) .stop) .stop))))))))))))) .stop) .stop)))))))))))) .stop) .stop))))))))))
theorem same26_ok (a b : List Int) (ha : a.length ≤ 17592186044416) (hb : b.length ≤ 17592186044416) : Good Try.prog TT false 15 [ints a, ints b] (· = .bool (decide (a = b))) := by
  have L1 : (a.map encI).length = a.length := List.length_map ..
  have L2 : (b.map encI).length = b.length := List.length_map ..
  refine good_of mixed tabOk Try.func15 rfl rfl Try.ntmps15 Try.results15 rfl rfl ?_
  (conv => whnf); (repeat (first | (refine arith_i ⟨by omega, by omega⟩ ?_; conv => whnf) | (refine need_i (by first | omega | (simp only [List.length_append, List.length_cons, List.length_nil]; omega)) ?_; conv => whnf) | ((with_reducible first | refine branch_tt ?_ | refine branch_ff ?_); conv => whnf) | (with_reducible refine branch_not ?_) | ((with_reducible first | refine slc_e ?_ | refine callS_a ?_ | refine bld_a ?_ | refine own_e ?_ | refine mkmap_b ?_ | refine lnk_a ?_); conv => whnf)))
  refine branch_n (fun h => ?_) (fun h => ?_)
  · (conv => whnf); (repeat (first | (refine arith_i ⟨by omega, by omega⟩ ?_; conv => whnf) | (refine need_i (by first | omega | (simp only [List.length_append, List.length_cons, List.length_nil]; omega)) ?_; conv => whnf) | ((with_reducible first | refine branch_tt ?_ | refine branch_ff ?_); conv => whnf) | (with_reducible refine branch_not ?_) | ((with_reducible first | refine slc_e ?_ | refine callS_a ?_ | refine bld_a ?_ | refine own_e ?_ | refine mkmap_b ?_ | refine lnk_a ?_); conv => whnf)))
    exact ret_p rfl (bool_eq (by rw [eq_comm, decide_eq_false_iff_not]; rintro rfl; exact h rfl))
  · (conv => whnf); (repeat (first | (refine arith_i ⟨by omega, by omega⟩ ?_; conv => whnf) | (refine need_i (by first | omega | (simp only [List.length_append, List.length_cons, List.length_nil]; omega)) ?_; conv => whnf) | ((with_reducible first | refine branch_tt ?_ | refine branch_ff ?_); conv => whnf) | (with_reducible refine branch_not ?_) | ((with_reducible first | refine slc_e ?_ | refine callS_a ?_ | refine bld_a ?_ | refine own_e ?_ | refine mkmap_b ?_ | refine lnk_a ?_); conv => whnf)))
    refine loop_i (fun k : Nat => k ≤ a.length ∧ ∀ i, i < k → a[i]? = b[i]?) (fun k => mkSt [(0, ints a), (1, ints b), (12, .int .i64 (a.map encI).length), (13, .int .i64 k)] [] false) (fun k => a.length - k) 0 ⟨Nat.zero_le _, nofun⟩ (le_mk ⟨rfl, rfl, rfl, rfl, trivial⟩ trivial rfl) ?_
    rintro k ⟨hk, hall⟩
    (conv => whnf); (repeat (first | (refine arith_i ⟨by omega, by omega⟩ ?_; conv => whnf) | (refine need_i (by first | omega | (simp only [List.length_append, List.length_cons, List.length_nil]; omega)) ?_; conv => whnf) | ((with_reducible first | refine branch_tt ?_ | refine branch_ff ?_); conv => whnf) | (with_reducible refine branch_not ?_) | ((with_reducible first | refine slc_e ?_ | refine callS_a ?_ | refine bld_a ?_ | refine own_e ?_ | refine mkmap_b ?_ | refine lnk_a ?_); conv => whnf)))
    refine branch_d (fun h1 => ?_) (fun h1 => ?_)
    · (conv => whnf); (repeat (first | (refine arith_i ⟨by omega, by omega⟩ ?_; conv => whnf) | (refine need_i (by first | omega | (simp only [List.length_append, List.length_cons, List.length_nil]; omega)) ?_; conv => whnf) | ((with_reducible first | refine branch_tt ?_ | refine branch_ff ?_); conv => whnf) | (with_reducible refine branch_not ?_) | ((with_reducible first | refine slc_e ?_ | refine callS_a ?_ | refine bld_a ?_ | refine own_e ?_ | refine mkmap_b ?_ | refine lnk_a ?_); conv => whnf)))
      refine draw_i 9 (.take 0 (.take 1 (.take 2 (.take 3 (.take 4 (.take 5 (.take 6 (.take 7 (.take 8 .done))))))))) (by decide +kernel) ?_
      (conv => whnf); (repeat (first | (refine arith_i ⟨by omega, by omega⟩ ?_; conv => whnf) | (refine need_i (by first | omega | (simp only [List.length_append, List.length_cons, List.length_nil]; omega)) ?_; conv => whnf) | ((with_reducible first | refine branch_tt ?_ | refine branch_ff ?_); conv => whnf) | (with_reducible refine branch_not ?_) | ((with_reducible first | refine slc_e ?_ | refine callS_a ?_ | refine bld_a ?_ | refine own_e ?_ | refine mkmap_b ?_ | refine lnk_a ?_); conv => whnf)))
      refine idx_m (by omega) (by omega) fun x hx => ?_
      rw [Int.toNat_natCast] at hx
      (conv => whnf); (repeat (first | (refine arith_i ⟨by omega, by omega⟩ ?_; conv => whnf) | (refine need_i (by first | omega | (simp only [List.length_append, List.length_cons, List.length_nil]; omega)) ?_; conv => whnf) | ((with_reducible first | refine branch_tt ?_ | refine branch_ff ?_); conv => whnf) | (with_reducible refine branch_not ?_) | ((with_reducible first | refine slc_e ?_ | refine callS_a ?_ | refine bld_a ?_ | refine own_e ?_ | refine mkmap_b ?_ | refine lnk_a ?_); conv => whnf)))
      refine idx_m (by omega) (by omega) fun y hy => ?_
      rw [Int.toNat_natCast] at hy
      (conv => whnf); (repeat (first | (refine arith_i ⟨by omega, by omega⟩ ?_; conv => whnf) | (refine need_i (by first | omega | (simp only [List.length_append, List.length_cons, List.length_nil]; omega)) ?_; conv => whnf) | ((with_reducible first | refine branch_tt ?_ | refine branch_ff ?_); conv => whnf) | (with_reducible refine branch_not ?_) | ((with_reducible first | refine slc_e ?_ | refine callS_a ?_ | refine bld_a ?_ | refine own_e ?_ | refine mkmap_b ?_ | refine lnk_a ?_); conv => whnf)))
      refine branch_n (fun he => ?_) (fun he => ?_)
      · (conv => whnf); (repeat (first | (refine arith_i ⟨by omega, by omega⟩ ?_; conv => whnf) | (refine need_i (by first | omega | (simp only [List.length_append, List.length_cons, List.length_nil]; omega)) ?_; conv => whnf) | ((with_reducible first | refine branch_tt ?_ | refine branch_ff ?_); conv => whnf) | (with_reducible refine branch_not ?_) | ((with_reducible first | refine slc_e ?_ | refine callS_a ?_ | refine bld_a ?_ | refine own_e ?_ | refine mkmap_b ?_ | refine lnk_a ?_); conv => whnf)))
        exact ret_p rfl (bool_eq (by rw [eq_comm, decide_eq_false_iff_not]; rintro rfl; rw [hx] at hy; injection hy with hy; exact he hy))
      · (conv => whnf); (repeat (first | (refine arith_i ⟨by omega, by omega⟩ ?_; conv => whnf) | (refine need_i (by first | omega | (simp only [List.length_append, List.length_cons, List.length_nil]; omega)) ?_; conv => whnf) | ((with_reducible first | refine branch_tt ?_ | refine branch_ff ?_); conv => whnf) | (with_reducible refine branch_not ?_) | ((with_reducible first | refine slc_e ?_ | refine callS_a ?_ | refine bld_a ?_ | refine own_e ?_ | refine mkmap_b ?_ | refine lnk_a ?_); conv => whnf)))
        refine ⟨k + 1, ⟨by omega, fun i hi => ?_⟩, le_mk ⟨rfl, rfl, rfl, rfl, trivial⟩ trivial rfl, by omega⟩
        rcases Nat.lt_or_ge i k with h' | h'
        · exact hall i h'
        · obtain rfl : i = k := by omega
          rw [hx, hy, he]
    · (conv => whnf); (repeat (first | (refine arith_i ⟨by omega, by omega⟩ ?_; conv => whnf) | (refine need_i (by first | omega | (simp only [List.length_append, List.length_cons, List.length_nil]; omega)) ?_; conv => whnf) | ((with_reducible first | refine branch_tt ?_ | refine branch_ff ?_); conv => whnf) | (with_reducible refine branch_not ?_) | ((with_reducible first | refine slc_e ?_ | refine callS_a ?_ | refine bld_a ?_ | refine own_e ?_ | refine mkmap_b ?_ | refine lnk_a ?_); conv => whnf)))
      refine ret_p rfl (bool_eq (by
        rw [eq_comm, decide_eq_true_iff]
        apply List.ext_getElem?
        intro i
        rcases Nat.lt_or_ge i k with h' | h'
        · exact hall i h'
        · rw [List.getElem?_eq_none (by omega), List.getElem?_eq_none (by omega)]))
theorem same26_refl (a : List Int) (ha : a.length ≤ 17592186044416) : Good Try.prog TT false 15 [ints a, ints a] (· = .bool true) := (same26_ok a a ha ha).mono fun r h => h.trans (bool_eq (decide_eq_true rfl))
structure Vw where
  place : Int
  paper : Int
  variant : Int
  pages : List Int
def encVw (v : Vw) : List AV := [.int .i64 v.place, .int .i64 v.paper, .int .i64 v.variant, ints v.pages]
def viewsV (l : List Vw) : AV := .lst 4 (l.map encVw)
theorem viewsEq_ok (vs : List Vw) (hl : vs.length ≤ 1000000) (hp : ∀ (k : Nat) (v : Vw), vs[k]? = some v → v.pages.length ≤ 1000000) : Good Try.prog TT false 12 [viewsV vs, viewsV vs] (· = .bool true) := by
  have L : (vs.map encVw).length = vs.length := List.length_map ..
  refine good_of mixed tabOk Try.func12 rfl rfl Try.ntmps12 Try.results12 rfl rfl ?_
  (conv => whnf); (repeat' (first | (refine arith_i ⟨by omega, by omega⟩ ?_; conv => whnf) | (refine arith_u ⟨by omega, by omega⟩ ?_; conv => whnf) | (refine arith_8 ⟨by omega, by omega⟩ ?_; conv => whnf) | (refine need_i (by first | omega | (simp only [List.length_cons, List.length_nil]; omega) | (simp only [List.length_append, List.length_cons, List.length_nil, List.length_map, List.length_replicate, List.length_modify]; omega)) ?_; conv => whnf) | ((with_reducible first | refine branch_tt ?_ | refine branch_ff ?_); conv => whnf) | (with_reducible refine branch_not ?_) | ((with_reducible first | refine slc_e ?_ | refine callS_a ?_ | refine bld_a ?_ | refine own_e ?_ | refine mkmap_b ?_ | refine lnk_a ?_); conv => whnf) | (refine draw_i 51 plGL26m_2 (by decide +kernel) ?_; (conv => whnf); fail_if_success (guard_target =~ False)) | (refine draw_i 51 plGL26m_3 (by decide +kernel) ?_; (conv => whnf); fail_if_success (guard_target =~ False)) | ((with_reducible refine And.intro ?_ ?_) <;> (conv => whnf)) | (with_reducible exact trivial) | ((with_reducible first | refine branch_d (fun hq => ?_) (fun hq => ?_) | refine branch_e (fun hq => ?_) (fun hq => ?_) | refine branch_n (fun hq => ?_) (fun hq => ?_) | refine branch_i (fun hq => ?_) (fun hq => ?_)) <;> (try (exfalso; omega)) <;> (conv => whnf))))
  refine loop_i (fun k : Nat => k ≤ vs.length) (fun k => mkSt [(0, viewsV vs), (1, viewsV vs), (12, .int .i64 vs.length), (13, .int .i64 k)] [] false) (fun k => vs.length - k) 0 (Nat.zero_le _) (le_mk ⟨rfl, rfl, int_eq (by rw [L]), rfl, trivial⟩ trivial rfl) ?_
  intro k hk
  rcases Nat.lt_or_ge k vs.length with hkl | hkl
  · obtain ⟨v, hv⟩ : ∃ v, vs[k]? = some v := ⟨_, List.getElem?_eq_getElem hkl⟩
    have hvp := hp k v hv
    (conv => whnf); (repeat' (first | (refine arith_i ⟨by omega, by omega⟩ ?_; conv => whnf) | (refine arith_u ⟨by omega, by omega⟩ ?_; conv => whnf) | (refine arith_8 ⟨by omega, by omega⟩ ?_; conv => whnf) | (refine need_i (by first | omega | (simp only [List.length_cons, List.length_nil]; omega) | (simp only [List.length_append, List.length_cons, List.length_nil, List.length_map, List.length_replicate, List.length_modify]; omega)) ?_; conv => whnf) | ((with_reducible first | refine branch_tt ?_ | refine branch_ff ?_); conv => whnf) | (with_reducible refine branch_not ?_) | ((refine idx_cs hv ?_); conv => whnf) | ((refine call_e (same26_refl v.pages (Nat.le_trans hvp (by decide))) ?_); conv => whnf) | ((with_reducible first | refine slc_e ?_ | refine callS_a ?_ | refine bld_a ?_ | refine own_e ?_ | refine mkmap_b ?_ | refine lnk_a ?_); conv => whnf) | (refine draw_i 51 plGL26m_2 (by decide +kernel) ?_; (conv => whnf); fail_if_success (guard_target =~ False)) | (refine draw_i 51 plGL26m_3 (by decide +kernel) ?_; (conv => whnf); fail_if_success (guard_target =~ False)) | ((with_reducible refine And.intro ?_ ?_) <;> (conv => whnf)) | (with_reducible exact trivial) | ((with_reducible first | refine branch_d (fun hq => ?_) (fun hq => ?_) | refine branch_e (fun hq => ?_) (fun hq => ?_) | refine branch_n (fun hq => ?_) (fun hq => ?_) | refine branch_i (fun hq => ?_) (fun hq => ?_)) <;> (try (exfalso; omega)) <;> (conv => whnf))))
    all_goals first
      | exact ⟨k + 1, by omega, (le_mk (by repeat' (first | exact trivial | rfl | apply And.intro)) (by repeat' (first | exact trivial | rfl | apply And.intro)) rfl), by omega⟩
      | (exfalso; exact absurd rfl (by assumption))
  · (conv => whnf); (repeat' (first | (refine arith_i ⟨by omega, by omega⟩ ?_; conv => whnf) | (refine arith_u ⟨by omega, by omega⟩ ?_; conv => whnf) | (refine arith_8 ⟨by omega, by omega⟩ ?_; conv => whnf) | (refine need_i (by first | omega | (simp only [List.length_cons, List.length_nil]; omega) | (simp only [List.length_append, List.length_cons, List.length_nil, List.length_map, List.length_replicate, List.length_modify]; omega)) ?_; conv => whnf) | ((with_reducible first | refine branch_tt ?_ | refine branch_ff ?_); conv => whnf) | (with_reducible refine branch_not ?_) | ((with_reducible first | refine slc_e ?_ | refine callS_a ?_ | refine bld_a ?_ | refine own_e ?_ | refine mkmap_b ?_ | refine lnk_a ?_); conv => whnf) | (refine draw_i 51 plGL26m_2 (by decide +kernel) ?_; (conv => whnf); fail_if_success (guard_target =~ False)) | (refine draw_i 51 plGL26m_3 (by decide +kernel) ?_; (conv => whnf); fail_if_success (guard_target =~ False)) | ((with_reducible refine And.intro ?_ ?_) <;> (conv => whnf)) | (with_reducible exact trivial) | ((with_reducible first | refine branch_d (fun hq => ?_) (fun hq => ?_) | refine branch_e (fun hq => ?_) (fun hq => ?_) | refine branch_n (fun hq => ?_) (fun hq => ?_) | refine branch_i (fun hq => ?_) (fun hq => ?_)) <;> (try (exfalso; omega)) <;> (conv => whnf))))
    exact ret_p rfl rfl
def vwL (s : List Scr) (ns : List Int) : List Vw := (List.range ns.length).map fun j : Nat => ⟨(j : Int), (scrN s (nth ns j)).paper, (scrN s (nth ns j)).variant, (scrN s (nth ns j)).pages⟩
theorem viewsL_eq {s : List Scr} {ns : List Int} : viewsL s ns = (vwL s ns).map encVw := by
  unfold viewsL vwL; rw [List.map_map]; rfl
theorem vwL_len {s : List Scr} {ns : List Int} : (vwL s ns).length = ns.length := by simp [vwL]
theorem vwL_pages {s : List Scr} {ns : List Int} (hs : ScsOk s) : ∀ (k : Nat) (v : Vw), (vwL s ns)[k]? = some v → v.pages.length ≤ 1000000 := fun k v h => by
  unfold vwL at h
  rw [List.getElem?_map, Option.map_eq_some_iff] at h
  obtain ⟨j, -, rfl⟩ := h
  exact scrN_pages hs
set_option maxHeartbeats 4000000 in
theorem rViews_ok (l : List Mrk) (s : List Scr) (ts : List (Int × Int)) (k id : Int) (ht : ts.length ≤ 1000) (hl : MksOk l) (hs : ScsOk s) (hk64 : k ≤ 9223372036854775807) : Good Try.prog TT false 25 [mrksV l, scrsV s, tasksV ts, .int .i64 k, .int .i64 id] (· = .own 0 51 4 (viewsL s (queueF l s ts k id))) := by
  have LS : (s.map encR).length = s.length := List.length_map ..
  have hQ := rQueue_ok l s ts k id ht hl hs hk64
  rw [← queue_eq hs] at hQ
  have LN : (queueF l s ts k id).length ≤ 2000 := queue_len ht hs
  generalize queueF l s ts k id = ns at hQ LN ⊢
  have hScr : ∀ n, Good Try.prog TT false 45 [scrsV s, .int .i64 n] (fun r => ∃ b : Bool, r = .tup [.agg (encR (scrN s n)), .bool b]) := fun n => (rScript_ok s n hs).mono fun r h => by
    unfold ScriptR at h
    cases hf : findS s n with
    | none => rw [hf] at h; exact ⟨false, by unfold scrN; rw [hf]; exact h⟩
    | some p =>
      rw [hf] at h
      obtain ⟨x, hx, h⟩ := h
      exact ⟨true, by unfold scrN; rw [hf]; simp only [hx, Option.getD_some]; exact h⟩
  refine good_of mixed tabOk Try.func25 rfl rfl Try.ntmps25 Try.results25 rfl rfl ?_
  (conv => whnf); (repeat' (first | (refine arith_i ⟨by omega, by omega⟩ ?_; conv => whnf) | (refine arith_u ⟨by omega, by omega⟩ ?_; conv => whnf) | (refine arith_8 ⟨by omega, by omega⟩ ?_; conv => whnf) | (refine need_i (by first | omega | (simp only [List.length_cons, List.length_nil]; omega) | (simp only [List.length_append, List.length_cons, List.length_nil, List.length_map, List.length_replicate, List.length_modify]; omega)) ?_; conv => whnf) | ((with_reducible first | refine branch_tt ?_ | refine branch_ff ?_); conv => whnf) | (with_reducible refine branch_not ?_) | ((refine call_e hQ ?_); conv => whnf) | ((with_reducible first | refine slc_e ?_ | refine callS_a ?_ | refine bld_a ?_ | refine own_e ?_ | refine mkmap_b ?_ | refine lnk_a ?_); conv => whnf) | ((with_reducible first | refine branch_d (fun hq => ?_) (fun hq => ?_) | refine branch_e (fun hq => ?_) (fun hq => ?_) | refine branch_n (fun hq => ?_) (fun hq => ?_) | refine branch_i (fun hq => ?_) (fun hq => ?_)) <;> (try (exfalso; omega)) <;> (conv => whnf))))
  have L : (ns.map encI).length = ns.length := List.length_map ..
  refine loop_i (fun j : Nat => j ≤ ns.length) (fun j => mkSt [(1, scrsV s), (11, .own 200 51 4 (viewsP s ns j)), (12, .own 21 3 1 (ns.map encI)), (13, .int .i64 j)] [] false) (fun j => ns.length - j) 0 (Nat.zero_le _) (Le.trans (le_adopt 11 200 51 4 rfl) (le_mk ⟨rfl, rfl, rfl, rfl, trivial⟩ trivial rfl)) ?_
  intro j hj
  have LV : (viewsP s ns j).length = j := by simp [viewsP]
  rcases Nat.lt_or_ge j ns.length with hjl | hjl
  · obtain ⟨n, hn⟩ : ∃ n, ns[j]? = some n := ⟨_, List.getElem?_eq_getElem hjl⟩
    have hpg := scrN_pages (n := n) hs
    have e1 : viewsP s ns (j + 1) = viewsP s ns j ++ [encV (scrN s n) j] := by
      unfold viewsP; rw [List.range_succ, List.map_append, List.map_singleton, nth_eq hn]
    (conv => whnf); (repeat' (first | (refine arith_i ⟨by omega, by omega⟩ ?_; conv => whnf) | (refine arith_u ⟨by omega, by omega⟩ ?_; conv => whnf) | (refine arith_8 ⟨by omega, by omega⟩ ?_; conv => whnf) | (refine need_i (by first | omega | (simp only [List.length_cons, List.length_nil]; omega) | (simp only [List.length_append, List.length_cons, List.length_nil, List.length_map, List.length_replicate, List.length_modify]; omega)) ?_; conv => whnf) | ((with_reducible first | refine branch_tt ?_ | refine branch_ff ?_); conv => whnf) | (with_reducible refine branch_not ?_) | ((refine idx_cs hn ?_); conv => whnf) | (((refine call_i (hScr n) fun r h => ?_; obtain ⟨b, rfl⟩ := h)); conv => whnf) | ((refine call_e (rSee_ok (scrN s n) j hpg) ?_); conv => whnf) | ((with_reducible first | refine slc_e ?_ | refine callS_a ?_ | refine bld_a ?_ | refine own_e ?_ | refine mkmap_b ?_ | refine lnk_a ?_); conv => whnf) | ((with_reducible first | refine branch_d (fun hq => ?_) (fun hq => ?_) | refine branch_e (fun hq => ?_) (fun hq => ?_) | refine branch_n (fun hq => ?_) (fun hq => ?_) | refine branch_i (fun hq => ?_) (fun hq => ?_)) <;> (try (exfalso; omega)) <;> (conv => whnf))))
    all_goals first | exact ⟨j + 1, by omega, by rw [e1]; exact (le_mk (by repeat' (first | exact trivial | rfl | apply And.intro)) (by repeat' (first | exact trivial | rfl | apply And.intro)) rfl), by omega⟩
  · (conv => whnf); (repeat' (first | (refine arith_i ⟨by omega, by omega⟩ ?_; conv => whnf) | (refine arith_u ⟨by omega, by omega⟩ ?_; conv => whnf) | (refine arith_8 ⟨by omega, by omega⟩ ?_; conv => whnf) | (refine need_i (by first | omega | (simp only [List.length_cons, List.length_nil]; omega) | (simp only [List.length_append, List.length_cons, List.length_nil, List.length_map, List.length_replicate, List.length_modify]; omega)) ?_; conv => whnf) | ((with_reducible first | refine branch_tt ?_ | refine branch_ff ?_); conv => whnf) | (with_reducible refine branch_not ?_) | ((with_reducible first | refine slc_e ?_ | refine callS_a ?_ | refine bld_a ?_ | refine own_e ?_ | refine mkmap_b ?_ | refine lnk_a ?_); conv => whnf) | ((with_reducible first | refine branch_d (fun hq => ?_) (fun hq => ?_) | refine branch_e (fun hq => ?_) (fun hq => ?_) | refine branch_n (fun hq => ?_) (fun hq => ?_) | refine branch_i (fun hq => ?_) (fun hq => ?_)) <;> (try (exfalso; omega)) <;> (conv => whnf))))
    obtain rfl : j = ns.length := by omega
    exact ret_o rfl
def mk26 : List Mrk := [⟨1, -1, 1, 9, [0]⟩]
def sc26 (i : Nat) : Scr := ⟨10 + i, 0, 10 + i, 0, 0, [10 + (i : Int)], []⟩
def ss26 (n : Nat) : List Scr := (List.range n).map sc26
theorem snoc26 {t : Tg} {e : Nat} {k : Nat} {cs : List AV} (h : cs = encR (sc26 k)) : AV.own t e 7 ((ss26 k).map encR ++ [cs]) = .own t e 7 ((ss26 (k + 1)).map encR) := by
  subst h
  rw [ss26, ss26, List.range_succ]; simp
theorem mk26_ok : MksOk mk26 := by
  refine ⟨by decide, fun k m h => ?_, fun i j a b hij ha hb => ?_⟩
  · have hm := List.mem_of_getElem? h
    simp only [mk26, List.mem_cons, List.not_mem_nil, or_false] at hm
    subst hm
    refine ⟨by decide, by decide, by decide, by decide, fun k x hx => ?_, fun i h0 h1 => ?_, by decide⟩
    · have := List.mem_of_getElem? hx
      simp only [List.mem_cons, List.not_mem_nil, or_false] at this
      subst this; rfl
    · simp only [List.length_cons, List.length_nil] at h1; omega
  · have h1 := (List.getElem?_eq_some_iff.1 ha).1
    have h2 := (List.getElem?_eq_some_iff.1 hb).1
    simp only [mk26, List.length_cons, List.length_nil] at h1 h2
    omega
theorem ss26_ok : ScsOk (ss26 4) := by
  have hat : ∀ (k : Nat) (m : Scr), (ss26 4)[k]? = some m → k < 4 ∧ m = sc26 k := fun k m h => by
    rw [ss26, List.getElem?_map, Option.map_eq_some_iff] at h
    obtain ⟨j, hj, rfl⟩ := h
    obtain ⟨h1, h2⟩ := List.getElem?_eq_some_iff.1 hj
    simp at h1 h2; subst h2; exact ⟨h1, rfl⟩
  refine ⟨by decide, fun k m h => ?_, fun k a b ha hb => ?_⟩
  · obtain ⟨h1, rfl⟩ := hat k m h
    exact ⟨⟨rfl, by simp only [sc26]; omega, by simp only [sc26]; omega, by simp only [sc26]; omega, by simp only [sc26]; omega⟩, by simp [sc26]⟩
  · obtain ⟨h1, rfl⟩ := hat k a ha
    obtain ⟨h2, rfl⟩ := hat (k + 1) b hb
    show (10 + k : Int) < 10 + (k + 1 : Nat); omega
theorem q26 : queueF mk26 (ss26 4) [(11, 1)] 2 1 = [10, 11, 12] := by
  rw [queue_eq ss26_ok]; decide
set_option maxHeartbeats 4000000 in
theorem sane26_ok : Good Try.prog TT false 5 [] (· = .bool true) := by
  refine good_of mixed tabOk Try.func5 rfl rfl Try.ntmps5 Try.results5 rfl rfl ?_
  (conv => whnf); (repeat' (first | (refine arith_i ⟨by omega, by omega⟩ ?_; conv => whnf) | (refine arith_u ⟨by omega, by omega⟩ ?_; conv => whnf) | (refine arith_8 ⟨by omega, by omega⟩ ?_; conv => whnf) | (refine need_i (by first | omega | (simp only [List.length_cons, List.length_nil]; omega) | (simp only [List.length_append, List.length_cons, List.length_nil, List.length_map, List.length_replicate, List.length_modify]; omega)) ?_; conv => whnf) | ((with_reducible first | refine branch_tt ?_ | refine branch_ff ?_); conv => whnf) | (with_reducible refine branch_not ?_) | ((refine nils_i [.int .i64 1, .int .i64 (-1), .int .i64 1, .int .i64 9, .lst 1 [[.int .i64 0]]] ⟨rfl, rfl, rfl, rfl, rfl, trivial⟩ ?_); conv => whnf) | ((with_reducible first | refine slc_e ?_ | refine callS_a ?_ | refine bld_a ?_ | refine own_e ?_ | refine mkmap_b ?_ | refine lnk_a ?_); conv => whnf) | ((with_reducible first | refine branch_d (fun hq => ?_) (fun hq => ?_) | refine branch_e (fun hq => ?_) (fun hq => ?_) | refine branch_n (fun hq => ?_) (fun hq => ?_) | refine branch_i (fun hq => ?_) (fun hq => ?_)) <;> (try (exfalso; omega)) <;> (conv => whnf))))
  refine loop_i (fun i : Nat => i ≤ 4) (fun i => mkSt [(1, .own 10 67 5 (mk26.map encM)), (2, .own 200 48 7 ((ss26 i).map encR)), (3, .int .i64 (10 + i))] [] false) (fun i => 4 - i) 0 (Nat.zero_le _) (Le.trans (le_adopt 2 200 48 7 rfl) (le_mk ⟨rfl, rfl, rfl, trivial⟩ trivial rfl)) ?_
  intro i hi
  have L : ((ss26 i).map encR).length = i := by simp [ss26]
  rcases Nat.lt_or_ge i 4 with hil | hil
  · (conv => whnf); (repeat' (first | (refine arith_i ⟨by omega, by omega⟩ ?_; conv => whnf) | (refine arith_u ⟨by omega, by omega⟩ ?_; conv => whnf) | (refine arith_8 ⟨by omega, by omega⟩ ?_; conv => whnf) | (refine need_i (by first | omega | (simp only [List.length_cons, List.length_nil]; omega) | (simp only [List.length_append, List.length_cons, List.length_nil, List.length_map, List.length_replicate, List.length_modify]; omega)) ?_; conv => whnf) | ((with_reducible first | refine branch_tt ?_ | refine branch_ff ?_); conv => whnf) | (with_reducible refine branch_not ?_) | ((refine nils_i [.int .i64 (10 + i), .int .i64 0, .int .i64 (10 + i), .int .i64 0, .int .i64 0, .lst 1 [[.int .i64 (10 + i)]], .lst 1 []] ⟨rfl, rfl, rfl, rfl, rfl, rfl, pc_nil 1, trivial⟩ ?_); conv => whnf) | ((with_reducible first | refine slc_e ?_ | refine callS_a ?_ | refine bld_a ?_ | refine own_e ?_ | refine mkmap_b ?_ | refine lnk_a ?_); conv => whnf) | ((with_reducible first | refine branch_d (fun hq => ?_) (fun hq => ?_) | refine branch_e (fun hq => ?_) (fun hq => ?_) | refine branch_n (fun hq => ?_) (fun hq => ?_) | refine branch_i (fun hq => ?_) (fun hq => ?_)) <;> (try (exfalso; omega)) <;> (conv => whnf))))
    exact ⟨i + 1, by omega, le_mk ⟨rfl, snoc26 rfl, int_eq (by omega), trivial⟩ trivial rfl, by omega⟩
  · obtain rfl : i = 4 := by omega
    have hQ := sQueue_ok mk26 (ss26 4) [(11, 1)] 2 1 (by decide) mk26_ok ss26_ok (by decide)
    have hV := views_ok mk26 (ss26 4) [(11, 1)] 2 1 (by decide) mk26_ok ss26_ok (by decide)
    rw [q26] at hQ hV
    replace hV : Good Try.prog TT false 24 [mrksV mk26, scrsV (ss26 4), tasksV [(11, 1)], .int .i64 2, .int .i64 1] (· = .own 0 51 4 [[.int .i64 0, .int .i64 0, .int .i64 0, ints [10]], [.int .i64 1, .int .i64 0, .int .i64 0, ints [11]], [.int .i64 2, .int .i64 0, .int .i64 0, ints [12]]]) := hV.mono fun r h => h.trans rfl
    have hC : Good Try.prog TT false 16 [scrsV (ss26 4), .int .i64 2] (· = .own 0 3 1 [[.int .i64 10], [.int .i64 12]]) := (common_ok (ss26 4) 2 ss26_ok (by decide)).mono fun r h => h.trans rfl
    have hD : Good Try.prog TT false 20 [sedsV [⟨12, [3]⟩], .int .i64 12] (· = .tup [ints [3], .bool true]) := definitive_ok [⟨12, [3]⟩] 12 (by decide) (fun k x h => by
      have := List.mem_of_getElem? h
      simp only [List.mem_cons, List.not_mem_nil, or_false] at this
      subst this; decide)
    (conv => whnf); (repeat' (first | (refine arith_i ⟨by omega, by omega⟩ ?_; conv => whnf) | (refine arith_u ⟨by omega, by omega⟩ ?_; conv => whnf) | (refine arith_8 ⟨by omega, by omega⟩ ?_; conv => whnf) | (refine need_i (by first | omega | (simp only [List.length_cons, List.length_nil]; omega) | (simp only [List.length_append, List.length_cons, List.length_nil, List.length_map, List.length_replicate, List.length_modify]; omega)) ?_; conv => whnf) | ((with_reducible first | refine branch_tt ?_ | refine branch_ff ?_); conv => whnf) | (with_reducible refine branch_not ?_) | ((refine ⟨⟨by decide, _, (rfl : _ = some [.int .i64 1, .int .i64 0, .int .i64 0, ints [11]]), ?_⟩⟩); conv => whnf) | ((refine call_e hQ ?_); conv => whnf) | ((refine call_e hV ?_); conv => whnf) | ((refine call_e hC ?_); conv => whnf) | ((refine call_e hD ?_); conv => whnf) | ((refine call_e (same26_refl [10, 12] (by decide)) ?_); conv => whnf) | ((refine call_e (same26_refl [10, 11, 12] (by decide)) ?_); conv => whnf) | ((refine call_e (same26_refl [11] (by decide)) ?_); conv => whnf) | ((refine call_e (same26_refl [3] (by decide)) ?_); conv => whnf) | ((with_reducible first | refine slc_e ?_ | refine callS_a ?_ | refine bld_a ?_ | refine own_e ?_ | refine mkmap_b ?_ | refine lnk_a ?_); conv => whnf) | ((with_reducible first | refine branch_d (fun hq => ?_) (fun hq => ?_) | refine branch_e (fun hq => ?_) (fun hq => ?_) | refine branch_n (fun hq => ?_) (fun hq => ?_) | refine branch_i (fun hq => ?_) (fun hq => ?_)) <;> (try (exfalso; omega)) <;> (conv => whnf))))
    all_goals first | exact ret_p rfl rfl | exact absurd rfl hq | (exfalso; simp at hq)
end Go.Proofs.Ythgnomniboindaa
end

/- Layer 25: assignments of the reference: start, fill, Least, Allocate. -/
section
namespace Go.Proofs.Ythgnomniboindaa
set_option linter.unusedVariables false
set_option linter.unusedSimpArgs false
set_option linter.unnecessarySimpa false
set_option linter.unusedSectionVars false
set_option maxRecDepth 10000
open Go.RowKit
def plGL25h_0 : Plan := (.take 0 (.take 1 (.take 2 (.take 3 (.take 4 (.take 5 (.take 6 (.alt 7 (.alt 8 (.alt 9 (.take 10 (.take 11 (.alt 12 .done .stop))) .stop) .stop) .stop))))))))
def plGL25h_1 : Plan := (.take 0 (.take 1 (.take 2 (.take 3 (.take 5 (.take 6 (.alt 4 (.alt 7 (.alt 8 (.alt 9 (.take 10 (.take 11 (.alt 12 .done .stop))) .stop) .stop) .stop) (.alt 7 (.alt 4 (.alt 8 (.alt 9 (.take 10 (.take 11 (.alt 12 .done .stop))) .stop) .stop) (.alt 8 (.alt 4 (.alt 9 (.take 10 (.take 11 (.alt 12 .done .stop))) .stop) .stop) .stop)) .stop))))))))
def plGL25h_2 : Plan := (.take 0 (.take 1 (.take 2 (.take 3 (.take 4 (.take 5 (.take 6 (.take 7 (.take 8 (.take 9 (.take 10 (.take 11 (.alt 12 (.alt 13 (.take 14 (.take 15 (.alt 16 .done .stop))) .stop) .stop)))))))))))))
def plGL25h_3 : Plan := (.take 0 (.take 1 (.take 2 (.take 3 (.take 4 (.take 5 (.take 6 (.take 7 (.take 8 (.take 10 (.alt 9 (.take 11 (.alt 12 (.alt 13 (.take 14 (.take 15 (.alt 16 .done .stop))) .stop) .stop)) .stop)))))))))))
def plGL25h_4 : Plan := (.take 0 (.take 1 (.take 2 (.take 3 (.take 5 (.take 6 (.take 7 (.take 8 (.take 10 (.alt 4 (.alt 9 (.take 11 (.alt 12 (.alt 13 (.take 14 (.take 15 (.alt 16 .done .stop))) .stop) .stop)) .stop) (.alt 9 (.take 11 (.alt 4 (.alt 12 (.alt 13 (.take 14 (.take 15 (.alt 16 .done .stop))) .stop) .stop) (.alt 12 (.alt 4 (.alt 13 (.take 14 (.take 15 (.alt 16 .done .stop))) .stop) .stop) .stop))) .stop)))))))))))
def rflowG (t1 t2 : Nat) (l : List Mrk) (s : List Scr) (lim : Nat → Nat) (f : Flw) : List AV := [mrksV l, scrsV s, .mat t1 84 4 1 (rowsC s.length l.length f.A), .own t2 3 1 (nsL l.length f.ld), .lst 1 (nsL l.length lim)]
theorem st_box {a a' : List (Option (List (List AV)))} {b b' c c' : List (List AV)} {x y : AV} {t e e2 z2 t2 e3 t3 e4 : Nat} (h1 : a = a') (h2 : b' = b) (h3 : c' = c) : some [x, y, AV.mat t e e2 z2 a, AV.own t2 e3 1 b, AV.own t3 e4 1 c] = some [x, y, AV.mat t e e2 z2 a', AV.own t2 e3 1 b', AV.own t3 e4 1 c'] := by rw [h1, h2, h3]
set_option maxHeartbeats 4000000 in
theorem start_ok (l : List Mrk) (s : List Scr) (most : Nat) (hl : MksOk l) (hs : ScsOk s) (hm : most ≤ 60) :
    GoodM Try.prog TT false 33 [mrksV l, scrsV s, .int .i64 most] [] (fun r ov bx => r = .ptr 12 0 ∧ ov = [] ∧ bx = [(12, rflowG 901 902 l s (limF (capF l) most) flw0)]) := by
  have LL : (l.map encM).length = l.length := List.length_map ..
  have LS : (s.map encR).length = s.length := List.length_map ..
  have h16 := hl.len
  have h60 := hs.len
  have e0 : ((s.map encR).length : Int).toNat = s.length := by rw [LS]; simp
  refine good_of_m (fun _ => false) mixed tabOk Try.func33 rfl rfl Try.ntmps33 Try.results33 rfl rfl ?_
  (conv => whnf); (repeat' (first | (refine arith_i ⟨by omega, by omega⟩ ?_; conv => whnf) | (refine arith_u ⟨by omega, by omega⟩ ?_; conv => whnf) | (refine arith_8 ⟨by omega, by omega⟩ ?_; conv => whnf) | (refine need_i (by first | omega | (simp only [List.length_cons, List.length_nil]; omega) | (simp only [List.length_append, List.length_cons, List.length_nil, List.length_map, List.length_replicate, List.length_modify]; omega)) ?_; conv => whnf) | ((with_reducible first | refine branch_tt ?_ | refine branch_ff ?_); conv => whnf) | (with_reducible refine branch_not ?_) | ((with_reducible first | refine slc_e ?_ | refine callS_a ?_ | refine bld_a ?_ | refine own_e ?_ | refine mkmap_b ?_ | refine lnk_a ?_); conv => whnf) | (refine draw_i 10 plGL25h_0 (by decide +kernel) ?_; (conv => whnf); fail_if_success (guard_target =~ False)) | (refine draw_i 10 plGL25h_1 (by decide +kernel) ?_; (conv => whnf); fail_if_success (guard_target =~ False)) | (refine draw_i 14 plGL25h_2 (by decide +kernel) ?_; (conv => whnf); fail_if_success (guard_target =~ False)) | (refine draw_i 14 plGL25h_3 (by decide +kernel) ?_; (conv => whnf); fail_if_success (guard_target =~ False)) | (refine draw_i 14 plGL25h_4 (by decide +kernel) ?_; (conv => whnf); fail_if_success (guard_target =~ False)) | ((with_reducible refine And.intro ?_ ?_) <;> (conv => whnf)) | (with_reducible exact trivial) | ((with_reducible first | refine branch_d (fun hq => ?_) (fun hq => ?_) | refine branch_e (fun hq => ?_) (fun hq => ?_) | refine branch_n (fun hq => ?_) (fun hq => ?_) | refine branch_i (fun hq => ?_) (fun hq => ?_)) <;> (try (exfalso; omega)) <;> (conv => whnf))))
  refine loop_i (fun i : Nat => i ≤ l.length) (fun i => mkSt [(0, mrksV l), (1, scrsV s), (2, .int .i64 most), (7, .ptr 12 0), (8, .int .i64 i)] [(12, [mrksV l, scrsV s, .mat 901 84 4 1 (rowsM i s.length fun _ _ => false), .own 902 3 1 (nsL i fun _ => 0), .own 903 3 1 (nsL i (limF (capF l) most))])] false) (fun i => l.length - i) 0 (Nat.zero_le _) (Le.trans (le_adoptBox 12 2 901 84 1 rfl rfl) (Le.trans (le_toMatBox 12 2 901 84 4 1 rfl rfl) (Le.trans (le_adoptBox 12 3 902 3 1 rfl rfl) (Le.trans (le_adoptBox 12 4 903 3 1 rfl rfl) (le_mk (by repeat' (first | exact trivial | rfl | apply And.intro)) (by repeat' (first | exact trivial | rfl | apply And.intro)) rfl))))) ?_
  intro i hi
  have L1 : (rowsM i s.length fun _ _ => false).length = i := rowsM_len
  have L2 : (nsL i fun _ => 0).length = i := nsL_len
  have L3 : (nsL i (limF (capF l) most)).length = i := nsL_len
  rcases Nat.lt_or_ge i l.length with hil | hil
  · obtain ⟨m, hm'⟩ : ∃ m, l[i]? = some m := ⟨_, List.getElem?_eq_getElem hil⟩
    have hcap := (hl.all i m hm').cap
    (conv => whnf); (repeat' (first | (refine arith_i ⟨by omega, by omega⟩ ?_; conv => whnf) | (refine arith_u ⟨by omega, by omega⟩ ?_; conv => whnf) | (refine arith_8 ⟨by omega, by omega⟩ ?_; conv => whnf) | (refine need_i (by first | omega | (simp only [List.length_cons, List.length_nil]; omega) | (simp only [List.length_append, List.length_cons, List.length_nil, List.length_map, List.length_replicate, List.length_modify]; omega)) ?_; conv => whnf) | ((with_reducible first | refine branch_tt ?_ | refine branch_ff ?_); conv => whnf) | (with_reducible refine branch_not ?_) | ((refine idx_cs hm' ?_); conv => whnf) | ((refine need_i (by omega) ?_); conv => whnf) | ((refine bld_m ?_); conv => whnf) | ((with_reducible first | refine slc_e ?_ | refine callS_a ?_ | refine bld_a ?_ | refine own_e ?_ | refine mkmap_b ?_ | refine lnk_a ?_); conv => whnf) | (refine draw_i 10 plGL25h_0 (by decide +kernel) ?_; (conv => whnf); fail_if_success (guard_target =~ False)) | (refine draw_i 10 plGL25h_1 (by decide +kernel) ?_; (conv => whnf); fail_if_success (guard_target =~ False)) | (refine draw_i 14 plGL25h_2 (by decide +kernel) ?_; (conv => whnf); fail_if_success (guard_target =~ False)) | (refine draw_i 14 plGL25h_3 (by decide +kernel) ?_; (conv => whnf); fail_if_success (guard_target =~ False)) | (refine draw_i 14 plGL25h_4 (by decide +kernel) ?_; (conv => whnf); fail_if_success (guard_target =~ False)) | ((with_reducible refine And.intro ?_ ?_) <;> (conv => whnf)) | (with_reducible exact trivial) | ((with_reducible first | refine branch_d (fun hq => ?_) (fun hq => ?_) | refine branch_e (fun hq => ?_) (fun hq => ?_) | refine branch_n (fun hq => ?_) (fun hq => ?_) | refine branch_i (fun hq => ?_) (fun hq => ?_)) <;> (try (exfalso; omega)) <;> (conv => whnf))))
    exact ⟨i + 1, by omega, le_mk ⟨rfl, rfl, rfl, rfl, rfl, trivial⟩ ⟨st_box (by rw [e0, bs_false, rows_next]) (by rw [ns_next]; rfl) (by rw [ns_next, lim_at hm' hcap.1]), trivial⟩ rfl, by omega⟩
  · obtain rfl : i = l.length := by omega
    (conv => whnf); (repeat' (first | (refine arith_i ⟨by omega, by omega⟩ ?_; conv => whnf) | (refine arith_u ⟨by omega, by omega⟩ ?_; conv => whnf) | (refine arith_8 ⟨by omega, by omega⟩ ?_; conv => whnf) | (refine need_i (by first | omega | (simp only [List.length_cons, List.length_nil]; omega) | (simp only [List.length_append, List.length_cons, List.length_nil, List.length_map, List.length_replicate, List.length_modify]; omega)) ?_; conv => whnf) | ((with_reducible first | refine branch_tt ?_ | refine branch_ff ?_); conv => whnf) | (with_reducible refine branch_not ?_) | ((with_reducible first | refine slc_e ?_ | refine callS_a ?_ | refine bld_a ?_ | refine own_e ?_ | refine mkmap_b ?_ | refine lnk_a ?_); conv => whnf) | (refine draw_i 10 plGL25h_0 (by decide +kernel) ?_; (conv => whnf); fail_if_success (guard_target =~ False)) | (refine draw_i 10 plGL25h_1 (by decide +kernel) ?_; (conv => whnf); fail_if_success (guard_target =~ False)) | (refine draw_i 14 plGL25h_2 (by decide +kernel) ?_; (conv => whnf); fail_if_success (guard_target =~ False)) | (refine draw_i 14 plGL25h_3 (by decide +kernel) ?_; (conv => whnf); fail_if_success (guard_target =~ False)) | (refine draw_i 14 plGL25h_4 (by decide +kernel) ?_; (conv => whnf); fail_if_success (guard_target =~ False)) | ((with_reducible refine And.intro ?_ ?_) <;> (conv => whnf)) | (with_reducible exact trivial) | ((with_reducible first | refine branch_d (fun hq => ?_) (fun hq => ?_) | refine branch_e (fun hq => ?_) (fun hq => ?_) | refine branch_n (fun hq => ?_) (fun hq => ?_) | refine branch_i (fun hq => ?_) (fun hq => ?_)) <;> (try (exfalso; omega)) <;> (conv => whnf))))
    exact retM_i _ [] [(12, rflowG 901 902 l s (limF (capF l) most) flw0)] rfl (Le.trans (le_erase 903) (le_mk (by repeat' (first | exact trivial | rfl | apply And.intro)) (by repeat' (first | exact trivial | rfl | apply And.intro)) rfl)) rfl ⟨rfl, rfl, rfl⟩
theorem call_args {a b : AV} {v v' : List (List AV)} {t e : Nat} (h : v = v') : [a, b, AV.own t e 1 v] ++ [] = [a, b, AV.own t e 1 v'] := by rw [h]; rfl
def RFillR (l : List Mrk) (s : List Scr) (lim : Nat → Nat) (p : Option Nat × Flw) (r : AV) (ov : List (Nat × AV)) (bx : List (Nat × List AV)) : Prop :=
  ov = [] ∧ bx = [(1000, rflowC l s lim p.2)] ∧ ((p.1 = none ∧ r = .tup [.int .i64 0, .bool true]) ∨ ∃ i, p.1 = some i ∧ r = .tup [.int .i64 (i : Nat), .bool false])
set_option maxHeartbeats 4000000 in
theorem rFill_ok (l : List Mrk) (s : List Scr) (lim : Nat → Nat) (hl : MksOk l) (hs : ScsOk s) (hlim : ∀ m, m < l.length → lim m ≤ 1000) (r : Nat) (hr : r ≤ 2) (s0 : Flw) (hw : WF (elF l s) lim s.length l.length s0) :
    GoodM Try.prog TT false 34 [.ptr 1000 0, .int .i64 r] [(1000, rflowC l s lim s0)] (RFillR l s lim (fillF (elF l s) lim s.length l.length r (List.range s.length) s0)) := by
  have LL : (l.map encM).length = l.length := List.length_map ..
  have LS : (s.map encR).length = s.length := List.length_map ..
  have h16 := hl.len
  have h60 := hs.len
  have e0 : ((l.map encM).length : Int).toNat = l.length := by rw [LL]; simp
  refine good_of_m (fun _ => false) mixed tabOk Try.func34 rfl rfl Try.ntmps34 Try.results34 rfl rfl ?_
  (conv => whnf); (repeat' (first | (refine arith_i ⟨by omega, by omega⟩ ?_; conv => whnf) | (refine arith_u ⟨by omega, by omega⟩ ?_; conv => whnf) | (refine arith_8 ⟨by omega, by omega⟩ ?_; conv => whnf) | (refine need_i (by first | omega | (simp only [List.length_cons, List.length_nil]; omega) | (simp only [List.length_append, List.length_cons, List.length_nil, List.length_map, List.length_replicate, List.length_modify]; omega)) ?_; conv => whnf) | ((with_reducible first | refine branch_tt ?_ | refine branch_ff ?_); conv => whnf) | (with_reducible refine branch_not ?_) | ((with_reducible first | refine slc_e ?_ | refine callS_a ?_ | refine bld_a ?_ | refine own_e ?_ | refine mkmap_b ?_ | refine lnk_a ?_); conv => whnf) | ((with_reducible first | refine branch_d (fun hq => ?_) (fun hq => ?_) | refine branch_e (fun hq => ?_) (fun hq => ?_) | refine branch_n (fun hq => ?_) (fun hq => ?_) | refine branch_i (fun hq => ?_) (fun hq => ?_)) <;> (try (exfalso; omega)) <;> (conv => whnf))))
  refine loop_i2 (fun (i : Nat) (F : Flw) => i ≤ s.length ∧ WF (elF l s) lim s.length l.length F ∧ fillF (elF l s) lim s.length l.length r (List.range s.length) s0 = fillF (elF l s) lim s.length l.length r ((List.range s.length).drop i) F) (fun i F => mkSt [(0, .ptr 1000 0), (1, .int .i64 r), (6, .int .i64 i)] [(1000, rflowC l s lim F)] false) (fun i _ => s.length - i) 0 s0 ⟨Nat.zero_le _, hw, rfl⟩ (le_mk (by repeat' (first | exact trivial | rfl | apply And.intro)) (by repeat' (first | exact trivial | rfl | apply And.intro)) rfl) ?_
  rintro i F ⟨hi, hws, hF⟩
  rcases Nat.lt_or_ge i s.length with hin | hin
  · rw [List.drop_eq_getElem_cons (by simpa using hin), List.getElem_range] at hF
    (conv => whnf); (repeat' (first | (refine arith_i ⟨by omega, by omega⟩ ?_; conv => whnf) | (refine arith_u ⟨by omega, by omega⟩ ?_; conv => whnf) | (refine arith_8 ⟨by omega, by omega⟩ ?_; conv => whnf) | (refine need_i (by first | omega | (simp only [List.length_cons, List.length_nil]; omega) | (simp only [List.length_append, List.length_cons, List.length_nil, List.length_map, List.length_replicate, List.length_modify]; omega)) ?_; conv => whnf) | ((with_reducible first | refine branch_tt ?_ | refine branch_ff ?_); conv => whnf) | (with_reducible refine branch_not ?_) | ((with_reducible first | refine slc_e ?_ | refine callS_a ?_ | refine bld_a ?_ | refine own_e ?_ | refine mkmap_b ?_ | refine lnk_a ?_); conv => whnf) | ((with_reducible first | refine branch_d (fun hq => ?_) (fun hq => ?_) | refine branch_e (fun hq => ?_) (fun hq => ?_) | refine branch_n (fun hq => ?_) (fun hq => ?_) | refine branch_i (fun hq => ?_) (fun hq => ?_)) <;> (try (exfalso; omega)) <;> (conv => whnf))))
    refine loop_i2 (fun (q : Nat) (s' : Flw) => q ≤ r ∧ WF (elF l s) lim s.length l.length s' ∧ roundsF (elF l s) lim s.length l.length i r F = roundsF (elF l s) lim s.length l.length i (r - q) s') (fun q s' => mkSt [(0, .ptr 1000 0), (1, .int .i64 r), (6, .int .i64 i), (7, .int .i64 q)] [(1000, rflowC l s lim s')] false) (fun q _ => r - q) 0 F ⟨Nat.zero_le _, hws, rfl⟩ (le_mk (by repeat' (first | exact trivial | rfl | apply And.intro)) (by repeat' (first | exact trivial | rfl | apply And.intro)) rfl) ?_
    rintro q s' ⟨hq1, hw', hR⟩
    rcases Nat.lt_or_ge q r with hqr | hqr
    · rw [show r - q = (r - (q + 1)) + 1 by omega] at hR
      have hG := give_ok l s lim hl hs hlim l.length i ⟨s'.A, s'.ld, fun _ => false⟩ hin (Nat.le_of_eq (unv_none fun _ => rfl)) hw'.lim
      (conv => whnf); (repeat' (first | (refine arith_i ⟨by omega, by omega⟩ ?_; conv => whnf) | (refine arith_u ⟨by omega, by omega⟩ ?_; conv => whnf) | (refine arith_8 ⟨by omega, by omega⟩ ?_; conv => whnf) | (refine need_i (by first | omega | (simp only [List.length_cons, List.length_nil]; omega) | (simp only [List.length_append, List.length_cons, List.length_nil, List.length_map, List.length_replicate, List.length_modify]; omega)) ?_; conv => whnf) | ((with_reducible first | refine branch_tt ?_ | refine branch_ff ?_); conv => whnf) | (with_reducible refine branch_not ?_) | ((refine need_i (by omega) ?_); conv => whnf) | ((refine mcall_e [(1000, 1000)] [(1101, 1101), (1102, 1102), (1104, 29)] hG rfl (call_args (by rw [e0, bs_false])) rfl ⟨⟨_, rfl, rfl, rfl⟩, trivial⟩ rfl ?_); conv => whnf) | ((with_reducible first | refine slc_e ?_ | refine callS_a ?_ | refine bld_a ?_ | refine own_e ?_ | refine mkmap_b ?_ | refine lnk_a ?_); conv => whnf) | ((with_reducible first | refine branch_d (fun hq => ?_) (fun hq => ?_) | refine branch_e (fun hq => ?_) (fun hq => ?_) | refine branch_n (fun hq => ?_) (fun hq => ?_) | refine branch_i (fun hq => ?_) (fun hq => ?_)) <;> (try (exfalso; omega)) <;> (conv => whnf))))
      · have e : augF (elF l s) lim s.length l.length i s' = (true, (augF (elF l s) lim s.length l.length i s').2) := Prod.ext hq rfl
        rw [rounds_yes (show (augF (elF l s) lim s.length l.length i s').1 = true from hq)] at hR
        exact ⟨q + 1, (augF (elF l s) lim s.length l.length i s').2, ⟨by omega, (aug_won hin hw' e).1, hR⟩, (le_mk (by repeat' (first | exact trivial | rfl | apply And.intro)) (by repeat' (first | exact trivial | rfl | apply And.intro)) rfl), by omega⟩
      · rw [rounds_no (show (augF (elF l s) lim s.length l.length i s').1 = false from hq)] at hR
        have e : fillF (elF l s) lim s.length l.length r (List.range s.length) s0 = (some i, (augF (elF l s) lim s.length l.length i s').2) := by rw [hF, fillF, hR]
        exact retM_i _ [] [(1000, rflowC l s lim (augF (elF l s) lim s.length l.length i s').2)] rfl (le_mk (by repeat' (first | exact trivial | rfl | apply And.intro)) (by repeat' (first | exact trivial | rfl | apply And.intro)) rfl) rfl ⟨rfl, by rw [e], .inr ⟨i, by rw [e], rfl⟩⟩
    · rw [show r - q = 0 by omega, roundsF] at hR
      (conv => whnf); (repeat' (first | (refine arith_i ⟨by omega, by omega⟩ ?_; conv => whnf) | (refine arith_u ⟨by omega, by omega⟩ ?_; conv => whnf) | (refine arith_8 ⟨by omega, by omega⟩ ?_; conv => whnf) | (refine need_i (by first | omega | (simp only [List.length_cons, List.length_nil]; omega) | (simp only [List.length_append, List.length_cons, List.length_nil, List.length_map, List.length_replicate, List.length_modify]; omega)) ?_; conv => whnf) | ((with_reducible first | refine branch_tt ?_ | refine branch_ff ?_); conv => whnf) | (with_reducible refine branch_not ?_) | ((with_reducible first | refine slc_e ?_ | refine callS_a ?_ | refine bld_a ?_ | refine own_e ?_ | refine mkmap_b ?_ | refine lnk_a ?_); conv => whnf) | ((with_reducible first | refine branch_d (fun hq => ?_) (fun hq => ?_) | refine branch_e (fun hq => ?_) (fun hq => ?_) | refine branch_n (fun hq => ?_) (fun hq => ?_) | refine branch_i (fun hq => ?_) (fun hq => ?_)) <;> (try (exfalso; omega)) <;> (conv => whnf))))
      exact ⟨i + 1, s', ⟨by omega, hw', by rw [hF, fillF, hR]⟩, (le_mk (by repeat' (first | exact trivial | rfl | apply And.intro)) (by repeat' (first | exact trivial | rfl | apply And.intro)) rfl), by omega⟩
  · rw [List.drop_eq_nil_of_le (by simpa using hin), fillF] at hF
    (conv => whnf); (repeat' (first | (refine arith_i ⟨by omega, by omega⟩ ?_; conv => whnf) | (refine arith_u ⟨by omega, by omega⟩ ?_; conv => whnf) | (refine arith_8 ⟨by omega, by omega⟩ ?_; conv => whnf) | (refine need_i (by first | omega | (simp only [List.length_cons, List.length_nil]; omega) | (simp only [List.length_append, List.length_cons, List.length_nil, List.length_map, List.length_replicate, List.length_modify]; omega)) ?_; conv => whnf) | ((with_reducible first | refine branch_tt ?_ | refine branch_ff ?_); conv => whnf) | (with_reducible refine branch_not ?_) | ((with_reducible first | refine slc_e ?_ | refine callS_a ?_ | refine bld_a ?_ | refine own_e ?_ | refine mkmap_b ?_ | refine lnk_a ?_); conv => whnf) | ((with_reducible first | refine branch_d (fun hq => ?_) (fun hq => ?_) | refine branch_e (fun hq => ?_) (fun hq => ?_) | refine branch_n (fun hq => ?_) (fun hq => ?_) | refine branch_i (fun hq => ?_) (fun hq => ?_)) <;> (try (exfalso; omega)) <;> (conv => whnf))))
    exact retM_i _ [] [(1000, rflowC l s lim F)] rfl (le_mk (by repeat' (first | exact trivial | rfl | apply And.intro)) (by repeat' (first | exact trivial | rfl | apply And.intro)) rfl) rfl ⟨rfl, by rw [hF], .inl ⟨by rw [hF], rfl⟩⟩
end Go.Proofs.Ythgnomniboindaa
end

/- Layer 25: Least, Allocate, Witness of the reference. -/
section
namespace Go.Proofs.Ythgnomniboindaa
set_option linter.unusedVariables false
set_option linter.unusedSimpArgs false
set_option linter.unnecessarySimpa false
set_option linter.unusedSectionVars false
set_option maxRecDepth 10000
open Go.RowKit
def plGL25i_0 : Plan := (.take 0 (.take 1 (.take 2 (.take 3 (.take 4 (.take 5 (.take 6 (.take 7 (.take 8 (.take 9 (.take 10 (.take 11 (.alt 12 (.alt 13 (.take 14 .done) .stop) .stop)))))))))))))
def plGL25i_1 : Plan := (.take 0 (.take 1 (.take 2 (.take 3 (.take 4 (.take 6 (.take 7 (.take 8 (.take 9 (.alt 5 (.alt 10 (.take 11 (.alt 12 (.alt 13 (.take 14 .done) .stop) .stop)) .stop) (.alt 10 (.alt 5 (.take 11 (.alt 12 (.alt 13 (.take 14 .done) .stop) .stop)) .stop) .stop)))))))))))
set_option maxHeartbeats 4000000 in
theorem rLeast_ok (l : List Mrk) (s : List Scr) (k : Int) (hl : MksOk l) (hs : ScsOk s) : Good Try.prog TT false 32 [mrksV l, scrsV s, .int .i64 k] (· = .tup [.int .i64 (((lstF l s k).getD 0 : Nat)), .bool (lstF l s k).isSome]) := by
  have h16 := hl.len
  have h60 := hs.len
  cases hk : okK k with
  | false =>
    have e : lstF l s k = none := by rw [lstF, if_neg (by simp [hk])]
    rw [e]
    refine good_of mixed tabOk Try.func32 rfl rfl Try.ntmps32 Try.results32 rfl rfl ?_
    (conv => whnf); (repeat' (first | (refine arith_i ⟨by omega, by omega⟩ ?_; conv => whnf) | (refine arith_u ⟨by omega, by omega⟩ ?_; conv => whnf) | (refine arith_8 ⟨by omega, by omega⟩ ?_; conv => whnf) | (refine need_i (by first | omega | (simp only [List.length_cons, List.length_nil]; omega) | (simp only [List.length_append, List.length_cons, List.length_nil, List.length_map, List.length_replicate, List.length_modify]; omega)) ?_; conv => whnf) | ((with_reducible first | refine branch_tt ?_ | refine branch_ff ?_); conv => whnf) | (with_reducible refine branch_not ?_) | ((refine call_e ((rRight_ok l s k hl hs).mono fun r h => h.trans (bool_eq hk)) ?_); conv => whnf) | ((with_reducible first | refine slc_e ?_ | refine callS_a ?_ | refine bld_a ?_ | refine own_e ?_ | refine mkmap_b ?_ | refine lnk_a ?_); conv => whnf) | ((with_reducible first | refine branch_d (fun hq => ?_) (fun hq => ?_) | refine branch_e (fun hq => ?_) (fun hq => ?_) | refine branch_n (fun hq => ?_) (fun hq => ?_) | refine branch_i (fun hq => ?_) (fun hq => ?_)) <;> (try (exfalso; omega)) <;> (conv => whnf))))
    exact ret_t (rs := [.int .i64 0, .bool false]) ⟨(rc_p rfl).g, (rc_p rfl).g, trivial⟩ rfl
  | true =>
    obtain ⟨q, rfl, hq1, hq2⟩ := okK_in hk
    have e : lstF l s q = bestF (elF l s) (capF l) s.length l.length q 61 0 := by rw [lstF, if_pos hk, Int.toNat_natCast, ← best_far (c := 61) (by omega)]
    obtain ⟨o, ho⟩ : ∃ o, o = bestF (elF l s) (capF l) s.length l.length q 61 0 := ⟨_, rfl⟩
    rw [e, ← ho]
    refine good_of mixed tabOk Try.func32 rfl rfl Try.ntmps32 Try.results32 rfl rfl ?_
    (conv => whnf); (repeat' (first | (refine arith_i ⟨by omega, by omega⟩ ?_; conv => whnf) | (refine arith_u ⟨by omega, by omega⟩ ?_; conv => whnf) | (refine arith_8 ⟨by omega, by omega⟩ ?_; conv => whnf) | (refine need_i (by first | omega | (simp only [List.length_cons, List.length_nil]; omega) | (simp only [List.length_append, List.length_cons, List.length_nil, List.length_map, List.length_replicate, List.length_modify]; omega)) ?_; conv => whnf) | ((with_reducible first | refine branch_tt ?_ | refine branch_ff ?_); conv => whnf) | (with_reducible refine branch_not ?_) | ((refine call_e ((rRight_ok l s q hl hs).mono fun r h => h.trans (bool_eq hk)) ?_); conv => whnf) | ((with_reducible first | refine slc_e ?_ | refine callS_a ?_ | refine bld_a ?_ | refine own_e ?_ | refine mkmap_b ?_ | refine lnk_a ?_); conv => whnf) | ((with_reducible first | refine branch_d (fun hq => ?_) (fun hq => ?_) | refine branch_e (fun hq => ?_) (fun hq => ?_) | refine branch_n (fun hq => ?_) (fun hq => ?_) | refine branch_i (fun hq => ?_) (fun hq => ?_)) <;> (try (exfalso; omega)) <;> (conv => whnf))))
    refine loop_i (fun c : Nat => c ≤ 61 ∧ o = bestF (elF l s) (capF l) s.length l.length q (61 - c) c) (fun c => mkSt [(0, mrksV l), (1, scrsV s), (2, .int .i64 q), (8, .int .i64 c)] [] false) (fun c => 61 - c) 0 ⟨by omega, ho⟩ (le_mk (by repeat' (first | exact trivial | rfl | apply And.intro)) (by repeat' (first | exact trivial | rfl | apply And.intro)) rfl) ?_
    rintro c ⟨hc, hF⟩
    rcases Nat.lt_or_ge c 61 with hcl | hcl
    · have hNew := start_ok l s c hl hs (by omega)
      have hlim : ∀ m, m < l.length → limF (capF l) c m ≤ 1000 := fun m hm => by unfold limF; omega
      have hFill := rFill_ok l s (limF (capF l) c) hl hs hlim q hq2 flw0 wf_0
      rw [show 61 - c = (61 - (c + 1)) + 1 by omega, bestF] at hF
      (conv => whnf); (repeat' (first | (refine arith_i ⟨by omega, by omega⟩ ?_; conv => whnf) | (refine arith_u ⟨by omega, by omega⟩ ?_; conv => whnf) | (refine arith_8 ⟨by omega, by omega⟩ ?_; conv => whnf) | (refine need_i (by first | omega | (simp only [List.length_cons, List.length_nil]; omega) | (simp only [List.length_append, List.length_cons, List.length_nil, List.length_map, List.length_replicate, List.length_modify]; omega)) ?_; conv => whnf) | ((with_reducible first | refine branch_tt ?_ | refine branch_ff ?_); conv => whnf) | (with_reducible refine branch_not ?_) | (((refine acall_m ?_; refine rcall_e [] [] [(12, 950)] [(901, 911), (902, 912)] hNew rfl rfl rfl rfl trivial rfl ?_)); conv => whnf) | (((refine rcall_i [(1000, 950)] [(1101, 911), (1102, 912)] [] [] _ Le.refl hFill rfl rfl rfl rfl ⟨⟨_, rfl, rfl, rfl⟩, trivial⟩ ?_; rintro r ov bx' ⟨rfl, rfl, hr⟩; rcases hr with ⟨h1, rfl⟩ | ⟨i, h1, rfl⟩ <;> refine ⟨rfl, ?_⟩ <;> (conv => whnf))); conv => whnf) | ((with_reducible first | refine slc_e ?_ | refine callS_a ?_ | refine bld_a ?_ | refine own_e ?_ | refine mkmap_b ?_ | refine lnk_a ?_); conv => whnf) | ((with_reducible first | refine branch_d (fun hq => ?_) (fun hq => ?_) | refine branch_e (fun hq => ?_) (fun hq => ?_) | refine branch_n (fun hq => ?_) (fun hq => ?_) | refine branch_i (fun hq => ?_) (fun hq => ?_)) <;> (try (exfalso; omega)) <;> (conv => whnf))))
      · have e2 : okF (elF l s) (capF l) s.length l.length q c = true := by rw [okF, h1]; rfl
        rw [if_pos e2] at hF
        rw [hF]
        exact ret_t (rs := [.int .i64 (c : Nat), .bool true]) ⟨(rc_p rfl).g, (rc_p rfl).g, trivial⟩ rfl
      · have e2 : ¬ okF (elF l s) (capF l) s.length l.length q c = true := by rw [okF, h1]; simp
        rw [if_neg e2] at hF
        exact ⟨c + 1, ⟨by omega, hF⟩, (le_mk (by repeat' (first | exact trivial | rfl | apply And.intro)) (by repeat' (first | exact trivial | rfl | apply And.intro)) rfl), by omega⟩
    · rw [show 61 - c = 0 by omega, bestF] at hF
      rw [hF]
      (conv => whnf); (repeat' (first | (refine arith_i ⟨by omega, by omega⟩ ?_; conv => whnf) | (refine arith_u ⟨by omega, by omega⟩ ?_; conv => whnf) | (refine arith_8 ⟨by omega, by omega⟩ ?_; conv => whnf) | (refine need_i (by first | omega | (simp only [List.length_cons, List.length_nil]; omega) | (simp only [List.length_append, List.length_cons, List.length_nil, List.length_map, List.length_replicate, List.length_modify]; omega)) ?_; conv => whnf) | ((with_reducible first | refine branch_tt ?_ | refine branch_ff ?_); conv => whnf) | (with_reducible refine branch_not ?_) | ((with_reducible first | refine slc_e ?_ | refine callS_a ?_ | refine bld_a ?_ | refine own_e ?_ | refine mkmap_b ?_ | refine lnk_a ?_); conv => whnf) | ((with_reducible first | refine branch_d (fun hq => ?_) (fun hq => ?_) | refine branch_e (fun hq => ?_) (fun hq => ?_) | refine branch_n (fun hq => ?_) (fun hq => ?_) | refine branch_i (fun hq => ?_) (fun hq => ?_)) <;> (try (exfalso; omega)) <;> (conv => whnf))))
      exact ret_t (rs := [.int .i64 0, .bool false]) ⟨(rc_p rfl).g, (rc_p rfl).g, trivial⟩ rfl
set_option maxHeartbeats 4000000 in
theorem rAllocate_ok (l : List Mrk) (s : List Scr) (k : Int) (hl : MksOk l) (hs : ScsOk s) : Good Try.prog TT false 11 [mrksV l, scrsV s, .int .i64 k] (AllR l s k) := by
  have LL : (l.map encM).length = l.length := List.length_map ..
  have LS : (s.map encR).length = s.length := List.length_map ..
  have h16 := hl.len
  have h60 := hs.len
  have hLe := rLeast_ok l s k hl hs
  cases hk : okK k with
  | false =>
    refine good_of mixed tabOk Try.func11 rfl rfl Try.ntmps11 Try.results11 rfl rfl ?_
    (conv => whnf); (repeat' (first | (refine arith_i ⟨by omega, by omega⟩ ?_; conv => whnf) | (refine arith_u ⟨by omega, by omega⟩ ?_; conv => whnf) | (refine arith_8 ⟨by omega, by omega⟩ ?_; conv => whnf) | (refine need_i (by first | omega | (simp only [List.length_cons, List.length_nil]; omega) | (simp only [List.length_append, List.length_cons, List.length_nil, List.length_map, List.length_replicate, List.length_modify]; omega)) ?_; conv => whnf) | ((with_reducible first | refine branch_tt ?_ | refine branch_ff ?_); conv => whnf) | (with_reducible refine branch_not ?_) | ((refine call_e ((rRight_ok l s k hl hs).mono fun r h => h.trans (bool_eq hk)) ?_); conv => whnf) | ((with_reducible first | refine slc_e ?_ | refine callS_a ?_ | refine bld_a ?_ | refine own_e ?_ | refine mkmap_b ?_ | refine lnk_a ?_); conv => whnf) | (refine draw_i 15 plGL25i_0 (by decide +kernel) ?_; (conv => whnf); fail_if_success (guard_target =~ False)) | (refine draw_i 15 plGL25i_1 (by decide +kernel) ?_; (conv => whnf); fail_if_success (guard_target =~ False)) | ((with_reducible refine And.intro ?_ ?_) <;> (conv => whnf)) | (with_reducible exact trivial) | ((with_reducible first | refine branch_d (fun hq => ?_) (fun hq => ?_) | refine branch_e (fun hq => ?_) (fun hq => ?_) | refine branch_n (fun hq => ?_) (fun hq => ?_) | refine branch_i (fun hq => ?_) (fun hq => ?_)) <;> (try (exfalso; omega)) <;> (conv => whnf))))
    exact ret_t (rs := [.lst 2 [], .int .i64 1]) ⟨.inl rc_n, (rc_p rfl).g, trivial⟩ (.inl ⟨hk, rfl⟩)
  | true =>
    obtain ⟨q, rfl, hq1, hq2⟩ := okK_in hk
    have e : lstF l s q = leastF (elF l s) (capF l) s.length l.length q := by rw [lstF, if_pos hk, Int.toNat_natCast]
    rw [e] at hLe
    cases h1 : leastF (elF l s) (capF l) s.length l.length q with
    | none =>
      rw [h1] at hLe
      replace hLe : Good Try.prog TT false 32 [mrksV l, scrsV s, .int .i64 q] (· = .tup [.int .i64 (0 : Nat), .bool false]) := hLe
      refine good_of mixed tabOk Try.func11 rfl rfl Try.ntmps11 Try.results11 rfl rfl ?_
      (conv => whnf); (repeat' (first | (refine arith_i ⟨by omega, by omega⟩ ?_; conv => whnf) | (refine arith_u ⟨by omega, by omega⟩ ?_; conv => whnf) | (refine arith_8 ⟨by omega, by omega⟩ ?_; conv => whnf) | (refine need_i (by first | omega | (simp only [List.length_cons, List.length_nil]; omega) | (simp only [List.length_append, List.length_cons, List.length_nil, List.length_map, List.length_replicate, List.length_modify]; omega)) ?_; conv => whnf) | ((with_reducible first | refine branch_tt ?_ | refine branch_ff ?_); conv => whnf) | (with_reducible refine branch_not ?_) | ((refine call_e ((rRight_ok l s q hl hs).mono fun r h => h.trans (bool_eq hk)) ?_); conv => whnf) | ((refine call_e hLe ?_); conv => whnf) | ((with_reducible first | refine slc_e ?_ | refine callS_a ?_ | refine bld_a ?_ | refine own_e ?_ | refine mkmap_b ?_ | refine lnk_a ?_); conv => whnf) | (refine draw_i 15 plGL25i_0 (by decide +kernel) ?_; (conv => whnf); fail_if_success (guard_target =~ False)) | (refine draw_i 15 plGL25i_1 (by decide +kernel) ?_; (conv => whnf); fail_if_success (guard_target =~ False)) | ((with_reducible refine And.intro ?_ ?_) <;> (conv => whnf)) | (with_reducible exact trivial) | ((with_reducible first | refine branch_d (fun hq => ?_) (fun hq => ?_) | refine branch_e (fun hq => ?_) (fun hq => ?_) | refine branch_n (fun hq => ?_) (fun hq => ?_) | refine branch_i (fun hq => ?_) (fun hq => ?_)) <;> (try (exfalso; omega)) <;> (conv => whnf))))
      exact ret_t (rs := [.lst 2 [], .int .i64 41]) ⟨.inl rc_n, (rc_p rfl).g, trivial⟩ (.inr (.inl ⟨hk, e.trans h1, rfl⟩))
    | some a =>
      rw [h1] at hLe
      replace hLe : Good Try.prog TT false 32 [mrksV l, scrsV s, .int .i64 q] (· = .tup [.int .i64 (a : Nat), .bool true]) := hLe
      have ha := least_le h1
      have hNew := start_ok l s a hl hs (by omega)
      have hlim : ∀ m, m < l.length → limF (capF l) a m ≤ 1000 := fun m hm => by unfold limF; omega
      have hFill := rFill_ok l s (limF (capF l) a) hl hs hlim q hq2 flw0 wf_0
      have hok : (fillF (elF l s) (limF (capF l) a) s.length l.length q (List.range s.length) flw0).1 = none := by
        have := (least_iff.1 h1).1
        rw [okF, Option.isNone_iff_eq_none] at this
        exact this
      generalize hp : fillF (elF l s) (limF (capF l) a) s.length l.length q (List.range s.length) flw0 = p at hFill hok
      obtain ⟨o, s'⟩ := p
      obtain rfl : o = none := hok
      have hU : Upto (elF l s) (limF (capF l) a) s.length l.length q s.length s' := fill_won (k := 0) rfl (Nat.zero_le _) upto_0 hp
      refine good_of mixed tabOk Try.func11 rfl rfl Try.ntmps11 Try.results11 rfl rfl ?_
      (conv => whnf); (repeat' (first | (refine arith_i ⟨by omega, by omega⟩ ?_; conv => whnf) | (refine arith_u ⟨by omega, by omega⟩ ?_; conv => whnf) | (refine arith_8 ⟨by omega, by omega⟩ ?_; conv => whnf) | (refine need_i (by first | omega | (simp only [List.length_cons, List.length_nil]; omega) | (simp only [List.length_append, List.length_cons, List.length_nil, List.length_map, List.length_replicate, List.length_modify]; omega)) ?_; conv => whnf) | ((with_reducible first | refine branch_tt ?_ | refine branch_ff ?_); conv => whnf) | (with_reducible refine branch_not ?_) | ((refine call_e ((rRight_ok l s q hl hs).mono fun r h => h.trans (bool_eq hk)) ?_); conv => whnf) | ((refine call_e hLe ?_); conv => whnf) | (((refine acall_m ?_; refine rcall_e [] [] [(12, 950)] [(901, 911), (902, 912)] hNew rfl rfl rfl rfl trivial rfl ?_)); conv => whnf) | (((refine rcall_i [(1000, 950)] [(1101, 911), (1102, 912)] [] [] _ Le.refl hFill rfl rfl rfl rfl ⟨⟨_, rfl, rfl, rfl⟩, trivial⟩ ?_; rintro r ov bx' ⟨rfl, rfl, hr⟩; rcases hr with ⟨h1', rfl⟩ | ⟨i, h1', rfl⟩ <;> refine ⟨rfl, ?_⟩ <;> (conv => whnf))); conv => whnf) | ((with_reducible first | refine slc_e ?_ | refine callS_a ?_ | refine bld_a ?_ | refine own_e ?_ | refine mkmap_b ?_ | refine lnk_a ?_); conv => whnf) | (refine draw_i 15 plGL25i_0 (by decide +kernel) ?_; (conv => whnf); fail_if_success (guard_target =~ False)) | (refine draw_i 15 plGL25i_1 (by decide +kernel) ?_; (conv => whnf); fail_if_success (guard_target =~ False)) | ((with_reducible refine And.intro ?_ ?_) <;> (conv => whnf)) | (with_reducible exact trivial) | ((with_reducible first | refine branch_d (fun hq => ?_) (fun hq => ?_) | refine branch_e (fun hq => ?_) (fun hq => ?_) | refine branch_n (fun hq => ?_) (fun hq => ?_) | refine branch_i (fun hq => ?_) (fun hq => ?_)) <;> (try (exfalso; omega)) <;> (conv => whnf))))
      all_goals try (exfalso; cases h1'; done)
      have LM : (rowsC s.length l.length s'.A).length = l.length := rowsC_len
      refine loop_i (fun i : Nat => i ≤ s.length) (fun i => mkSt [(0, mrksV l), (1, scrsV s), (10, .ptr 950 0), (11, .own 920 69 2 ((tasksT l s s'.A i).map encT)), (12, .int .i64 i)] [(950, rflowG 911 912 l s (limF (capF l) a) s')] false) (fun i => s.length - i) 0 (Nat.zero_le _) (Le.trans (le_adopt 11 920 69 2 rfl) (le_mk (by repeat' (first | exact trivial | rfl | apply And.intro)) (by repeat' (first | exact trivial | rfl | apply And.intro)) rfl)) ?_
      intro i hi
      have LT := tasksT_len (l := l) (s := s) (A := s'.A) (n := i)
      have LT2 : ((tasksT l s s'.A i).map encT).length = (tasksT l s s'.A i).length := List.length_map ..
      have hb : i * l.length ≤ 60 * 16 := Nat.mul_le_mul (by omega) h16
      rcases Nat.lt_or_ge i s.length with hil | hil
      · obtain ⟨x, hx⟩ : ∃ x, s[i]? = some x := ⟨_, List.getElem?_eq_getElem hil⟩
        (conv => whnf); (repeat' (first | (refine arith_i ⟨by omega, by omega⟩ ?_; conv => whnf) | (refine arith_u ⟨by omega, by omega⟩ ?_; conv => whnf) | (refine arith_8 ⟨by omega, by omega⟩ ?_; conv => whnf) | (refine need_i (by first | omega | (simp only [List.length_cons, List.length_nil]; omega) | (simp only [List.length_append, List.length_cons, List.length_nil, List.length_map, List.length_replicate, List.length_modify]; omega)) ?_; conv => whnf) | ((with_reducible first | refine branch_tt ?_ | refine branch_ff ?_); conv => whnf) | (with_reducible refine branch_not ?_) | ((with_reducible first | refine slc_e ?_ | refine callS_a ?_ | refine bld_a ?_ | refine own_e ?_ | refine mkmap_b ?_ | refine lnk_a ?_); conv => whnf) | (refine draw_i 15 plGL25i_0 (by decide +kernel) ?_; (conv => whnf); fail_if_success (guard_target =~ False)) | (refine draw_i 15 plGL25i_1 (by decide +kernel) ?_; (conv => whnf); fail_if_success (guard_target =~ False)) | ((with_reducible refine And.intro ?_ ?_) <;> (conv => whnf)) | (with_reducible exact trivial) | ((with_reducible first | refine branch_d (fun hq => ?_) (fun hq => ?_) | refine branch_e (fun hq => ?_) (fun hq => ?_) | refine branch_n (fun hq => ?_) (fun hq => ?_) | refine branch_i (fun hq => ?_) (fun hq => ?_)) <;> (try (exfalso; omega)) <;> (conv => whnf))))
        refine loop_i (fun m : Nat => m ≤ l.length) (fun m => mkSt [(0, mrksV l), (1, scrsV s), (10, .ptr 950 0), (11, .own 920 69 2 ((tasksT l s s'.A i ++ rowT l s s'.A i m).map encT)), (12, .int .i64 i), (13, .int .i64 m)] [(950, rflowG 911 912 l s (limF (capF l) a) s')] false) (fun m => l.length - m) 0 (Nat.zero_le _) (by rw [show rowT l s s'.A i 0 = [] from rfl, List.append_nil]; exact (le_mk (by repeat' (first | exact trivial | rfl | apply And.intro)) (by repeat' (first | exact trivial | rfl | apply And.intro)) rfl)) ?_
        intro m hm
        have LR := rowT_len (l := l) (s := s) (A := s'.A) (i := i) (k := m)
        have LR2 : ((tasksT l s s'.A i ++ rowT l s s'.A i m).map encT).length = (tasksT l s s'.A i).length + (rowT l s s'.A i m).length := by simp
        rcases Nat.lt_or_ge m l.length with hml | hml
        · obtain ⟨y, hy⟩ : ∃ y, l[m]? = some y := ⟨_, List.getElem?_eq_getElem hml⟩
          (conv => whnf); (repeat' (first | (refine arith_i ⟨by omega, by omega⟩ ?_; conv => whnf) | (refine arith_u ⟨by omega, by omega⟩ ?_; conv => whnf) | (refine arith_8 ⟨by omega, by omega⟩ ?_; conv => whnf) | (refine need_i (by first | omega | (simp only [List.length_cons, List.length_nil]; omega) | (simp only [List.length_append, List.length_cons, List.length_nil, List.length_map, List.length_replicate, List.length_modify]; omega)) ?_; conv => whnf) | ((with_reducible first | refine branch_tt ?_ | refine branch_ff ?_); conv => whnf) | (with_reducible refine branch_not ?_) | ((refine idx_cs hy ?_); conv => whnf) | ((refine idx_cs hx ?_); conv => whnf) | ((refine ridx_f (m := m) rfl (by omega) ?_); conv => whnf) | ((refine idx_f (m := i) rfl (by omega) ?_); conv => whnf) | ((with_reducible first | refine slc_e ?_ | refine callS_a ?_ | refine bld_a ?_ | refine own_e ?_ | refine mkmap_b ?_ | refine lnk_a ?_); conv => whnf) | (refine draw_i 15 plGL25i_0 (by decide +kernel) ?_; (conv => whnf); fail_if_success (guard_target =~ False)) | (refine draw_i 15 plGL25i_1 (by decide +kernel) ?_; (conv => whnf); fail_if_success (guard_target =~ False)) | ((with_reducible refine And.intro ?_ ?_) <;> (conv => whnf)) | (with_reducible exact trivial) | ((with_reducible first | refine branch_d (fun hq => ?_) (fun hq => ?_) | refine branch_e (fun hq => ?_) (fun hq => ?_) | refine branch_n (fun hq => ?_) (fun hq => ?_) | refine branch_i (fun hq => ?_) (fun hq => ?_)) <;> (try (exfalso; omega)) <;> (conv => whnf))))
          · have e1 : (tasksT l s s'.A i ++ rowT l s s'.A i (m + 1)).map encT = (tasksT l s s'.A i ++ rowT l s s'.A i m).map encT ++ [[.int .i64 x.number, .int .i64 y.id]] := by
              rw [rowT_next, if_pos hq, ← List.append_assoc, List.map_append, numF_at hx, idF_at hy]; rfl
            exact ⟨m + 1, by omega, by rw [e1]; exact (le_mk (by repeat' (first | exact trivial | rfl | apply And.intro)) (by repeat' (first | exact trivial | rfl | apply And.intro)) rfl), by omega⟩
          · have e1 : rowT l s s'.A i (m + 1) = rowT l s s'.A i m := by rw [rowT_next, if_neg (by simp [hq]), List.append_nil]
            exact ⟨m + 1, by omega, by rw [e1]; exact (le_mk (by repeat' (first | exact trivial | rfl | apply And.intro)) (by repeat' (first | exact trivial | rfl | apply And.intro)) rfl), by omega⟩
        · (conv => whnf); (repeat' (first | (refine arith_i ⟨by omega, by omega⟩ ?_; conv => whnf) | (refine arith_u ⟨by omega, by omega⟩ ?_; conv => whnf) | (refine arith_8 ⟨by omega, by omega⟩ ?_; conv => whnf) | (refine need_i (by first | omega | (simp only [List.length_cons, List.length_nil]; omega) | (simp only [List.length_append, List.length_cons, List.length_nil, List.length_map, List.length_replicate, List.length_modify]; omega)) ?_; conv => whnf) | ((with_reducible first | refine branch_tt ?_ | refine branch_ff ?_); conv => whnf) | (with_reducible refine branch_not ?_) | ((with_reducible first | refine slc_e ?_ | refine callS_a ?_ | refine bld_a ?_ | refine own_e ?_ | refine mkmap_b ?_ | refine lnk_a ?_); conv => whnf) | (refine draw_i 15 plGL25i_0 (by decide +kernel) ?_; (conv => whnf); fail_if_success (guard_target =~ False)) | (refine draw_i 15 plGL25i_1 (by decide +kernel) ?_; (conv => whnf); fail_if_success (guard_target =~ False)) | ((with_reducible refine And.intro ?_ ?_) <;> (conv => whnf)) | (with_reducible exact trivial) | ((with_reducible first | refine branch_d (fun hq => ?_) (fun hq => ?_) | refine branch_e (fun hq => ?_) (fun hq => ?_) | refine branch_n (fun hq => ?_) (fun hq => ?_) | refine branch_i (fun hq => ?_) (fun hq => ?_)) <;> (try (exfalso; omega)) <;> (conv => whnf))))
          obtain rfl : m = l.length := by omega
          exact ⟨i + 1, by omega, by rw [tasksT_next]; exact (le_mk (by repeat' (first | exact trivial | rfl | apply And.intro)) (by repeat' (first | exact trivial | rfl | apply And.intro)) rfl), by omega⟩
      · (conv => whnf); (repeat' (first | (refine arith_i ⟨by omega, by omega⟩ ?_; conv => whnf) | (refine arith_u ⟨by omega, by omega⟩ ?_; conv => whnf) | (refine arith_8 ⟨by omega, by omega⟩ ?_; conv => whnf) | (refine need_i (by first | omega | (simp only [List.length_cons, List.length_nil]; omega) | (simp only [List.length_append, List.length_cons, List.length_nil, List.length_map, List.length_replicate, List.length_modify]; omega)) ?_; conv => whnf) | ((with_reducible first | refine branch_tt ?_ | refine branch_ff ?_); conv => whnf) | (with_reducible refine branch_not ?_) | ((with_reducible first | refine slc_e ?_ | refine callS_a ?_ | refine bld_a ?_ | refine own_e ?_ | refine mkmap_b ?_ | refine lnk_a ?_); conv => whnf) | (refine draw_i 15 plGL25i_0 (by decide +kernel) ?_; (conv => whnf); fail_if_success (guard_target =~ False)) | (refine draw_i 15 plGL25i_1 (by decide +kernel) ?_; (conv => whnf); fail_if_success (guard_target =~ False)) | ((with_reducible refine And.intro ?_ ?_) <;> (conv => whnf)) | (with_reducible exact trivial) | ((with_reducible first | refine branch_d (fun hq => ?_) (fun hq => ?_) | refine branch_e (fun hq => ?_) (fun hq => ?_) | refine branch_n (fun hq => ?_) (fun hq => ?_) | refine branch_i (fun hq => ?_) (fun hq => ?_)) <;> (try (exfalso; omega)) <;> (conv => whnf))))
        obtain rfl : i = s.length := by omega
        exact ret_t (rs := [.lst 2 ((tasksT l s s'.A s.length).map encT), .int .i64 0]) ⟨.inl rc_o, (rc_p rfl).g, trivial⟩ (.inr (.inr ⟨a, s', hk, e.trans h1, by rw [Int.toNat_natCast]; exact hU, rfl⟩))
end Go.Proofs.Ythgnomniboindaa
end

/- Layer 26, plainly: who wrote a script is not seen. -/
section
namespace Go.Proofs.Ythgnomniboindaa
set_option linter.unusedVariables false
set_option linter.unusedSimpArgs false
set_option linter.unnecessarySimpa false
set_option linter.unusedSectionVars false
set_option maxRecDepth 10000
open Go.RowKit
theorem all_any {l : List Mrk} {s : List Scr} {k : Int} {r : AV} (hl : MksOk l) (hs : ScsOk s) (h : AllR l s k r) : ∃ ts e, r = .tup [tasksV ts, .int .i64 e] ∧ ts.length ≤ 960 ∧ ∀ (k : Nat) (t : Int × Int), ts[k]? = some t → 0 ≤ t.1 ∧ t.1 ≤ 1000000 := by
  rcases h with ⟨-, h⟩ | ⟨-, -, h⟩ | ⟨a, F, -, -, -, h⟩
  · exact ⟨[], _, h, by simp, fun k t hk => by simp at hk⟩
  · exact ⟨[], _, h, by simp, fun k t hk => by simp at hk⟩
  · refine ⟨_, _, h, ?_, fun k t hk => ?_⟩
    rotate_left
    · obtain ⟨p, m, h1, h2, rfl, h4⟩ := tasksT_mem t (List.mem_of_getElem? hk)
      obtain ⟨x, hx⟩ : ∃ x, s[p]? = some x := ⟨_, List.getElem?_eq_getElem h1⟩
      have g := (hs.all p x hx).1
      have g1 := g.paper
      have g2 := g.cand
      have g3 := g.number
      simp only [papB, Bool.and_eq_true, decide_eq_true_eq] at g1
      simp only [numF_at hx]; omega
    have h1 := tasksT_len (l := l) (s := s) (A := F.A) (n := s.length)
    have := Nat.mul_le_mul hs.len hl.len
    omega
end Go.Proofs.Ythgnomniboindaa
end

/- From a contract of the interpreter to a law's call: any arguments; slices of strings. -/
section
namespace Go.Proofs.Ythgnomniboindaa
set_option linter.unusedVariables false
set_option linter.unusedSimpArgs false
set_option linter.unnecessarySimpa false
set_option linter.unusedSectionVars false
open Go.RowKit

theorem law_all {f : Nat} {args : List AV} (hG : Good Try.prog TT false f args (· = .bool true)) {w : World} {us : List Value} (h : All2 (RepV w No) args us) :
    Calls Try.prog f us.toArray w (fun e w' => e = .returned (.bool true) ∧ Chg No w w') := by
  have hx : ∀ b, GX (G0 none No (none, 0, 0)) b → False := fun b hb => by rcases hb with hb | hb <;> simp_all [GM, G0, No]
  refine Calls.mono (hG.2 w No none us (none, 0, 0) (fun b hb => absurd hb no_) rfl (h.mono fun v u hr => RC.ra (RepV.rc (RepV.move hr (fun _ _ _ => rfl) fun b _ hb => (hx b hb).elim))) nofun) ?_
  rintro e w' ⟨u, r, rfl, rfl, hr, hc, -⟩
  have hu : RepV w' (GX (G0 none No (none, 0, 0))) (.bool true) u := hr
  cases hu
  exact ⟨rfl, hc.mono fun b _ hb => by cases hb⟩
theorem ints_row {w : World} {a : Option Addr} {len cap : Nat} {zs : List Int} (h : Ints w No a len cap zs) : RepV w No (ints zs) (.slice a len cap) := ints_rep h
end Go.Proofs.Ythgnomniboindaa
end
