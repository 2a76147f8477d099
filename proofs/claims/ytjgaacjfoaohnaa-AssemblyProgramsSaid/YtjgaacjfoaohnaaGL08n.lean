/- Layer 8: the rows of a blueprint by the interpreter: forms, collect, pairs. -/
import Derived.Test.YtjgaacjfoaohnaaGL08m
namespace Go.Proofs.Ytjgaacjfoaohnaa
set_option linter.unusedVariables false
set_option linter.unusedSimpArgs false
set_option linter.unnecessarySimpa false
set_option linter.unusedSectionVars false
set_option maxRecDepth 10000
open Go.RowKit
def plGL08n_0 : Plan := (.take 1 (.take 2 (.take 3 (.alt 0 (.alt 4 (.take 5 .done) .stop) (.alt 4 (.alt 0 (.take 5 .done) .stop) .stop)))))
def plGL08n_1 : Plan := (.take 0 (.take 1 (.take 2 (.take 3 (.take 4 (.take 5 (.take 6 (.take 7 (.take 8 (.take 9 (.take 10 (.take 11 (.take 12 (.take 13 (.take 14 (.take 15 (.take 16 (.take 17 (.take 18 (.take 19 (.alt 20 (.take 21 (.take 22 .done)) .stop)))))))))))))))))))))
def plGL08n_2 : Plan := (.take 0 (.take 1 (.take 2 (.take 3 (.take 5 (.take 6 (.take 7 (.take 8 (.alt 4 (.alt 9 (.take 10 (.take 11 (.take 12 (.take 13 (.take 14 (.take 16 (.take 17 (.take 18 (.alt 15 (.alt 19 (.alt 20 (.take 21 (.take 22 .done)) .stop) .stop) (.alt 19 (.alt 15 (.alt 20 (.take 21 (.take 22 .done)) .stop) .stop) .stop)))))))))) .stop) (.alt 9 (.alt 4 (.take 10 (.take 11 (.take 12 (.take 13 (.take 14 (.take 16 (.take 17 (.take 18 (.alt 15 (.alt 19 (.alt 20 (.take 21 (.take 22 .done)) .stop) .stop) (.alt 19 (.alt 15 (.alt 20 (.take 21 (.take 22 .done)) .stop) .stop) .stop)))))))))) .stop) .stop))))))))))
def plGL08n_3 : Plan := (.take 0 (.take 1 (.take 2 (.take 3 (.take 5 (.take 6 (.take 7 (.take 8 (.alt 4 (.alt 9 (.take 10 (.take 11 (.take 12 (.take 13 (.take 14 (.take 16 (.take 17 (.take 18 (.alt 15 (.alt 19 (.altM 20 (.take 21 (.take 22 .done)) .stop) .stop) (.alt 19 (.alt 15 (.altM 20 (.take 21 (.take 22 .done)) .stop) .stop) .stop)))))))))) .stop) (.alt 9 (.alt 4 (.take 10 (.take 11 (.take 12 (.take 13 (.take 14 (.take 16 (.take 17 (.take 18 (.alt 15 (.alt 19 (.altM 20 (.take 21 (.take 22 .done)) .stop) .stop) (.alt 19 (.alt 15 (.altM 20 (.take 21 (.take 22 .done)) .stop) .stop) .stop)))))))))) .stop) .stop))))))))))
set_option maxRecDepth 100000 in
theorem eq_ref (a b c d : Int) (w : World) : (Op.equalIn 10000 56 (.agg [Value.int .i64 a, .int .i64 b].toArray) (.agg [Value.int .i64 c, .int .i64 d].toArray)).run Try.prog w = .ok (a == c && b == d) w := by
  have u3 := Try.underlying3
  have a3 := Try.isAgg3
  have z3 := Try.sizeOf3
  have hS : Try.prog.underlying 56 = some (.struct (Try.prog.fieldsOf 56)) := by kernel_rfl
  have hp : Try.prog.stoodInHeld 56 = false := by kernel_rfl
  rw [show (10000 : Nat) = 9999 + 1 from rfl, run_equalIn_agg w 9999 56 _ _ hS hp]
  simp only [Program.fieldsOf, Try.underlying56]
  go_simp
  by_cases h1 : a = c <;> by_cases h2 : b = d <;> simp [h1, h2]
theorem guard_ref : Try.prog.eqGuardType Try.prog.depth 56 = false := by kernel_rfl
set_option maxHeartbeats 2000000 in
theorem sIndexR_ok (l : List (Int × Int)) (x : Itm) (hl : l.length ≤ 1000000) : Good Try.prog TT false 69 [.lst 2 (l.map encRef), .agg (encRef (refOf x))] (fun r => ∃ n : Int, r = .int .i64 n ∧ (decide (n ≥ 0) = hasR l x)) := by
  have L : (l.map encRef).length = l.length := List.length_map ..
  refine good_of mixed tabOk Try.func69 rfl rfl Try.ntmps69 Try.results69 rfl rfl ?_
  (conv => whnf); (repeat' (first | (refine arith_i ⟨by omega, by omega⟩ ?_; conv => whnf) | (refine arith_u ⟨by omega, by omega⟩ ?_; conv => whnf) | (refine arith_8 ⟨by omega, by omega⟩ ?_; conv => whnf) | (refine need_i (by first | omega | (simp only [List.length_append, List.length_cons, List.length_nil, List.length_map, List.length_replicate, List.length_modify]; omega)) ?_; conv => whnf) | ((with_reducible refine branch_tt ?_); conv => whnf) | ((with_reducible refine branch_ff ?_); conv => whnf) | (with_reducible refine branch_not ?_) | ((with_reducible refine slc_e ?_); conv => whnf) | ((with_reducible refine callS_a ?_); conv => whnf) | ((with_reducible refine own_e ?_); conv => whnf) | (refine draw_i 6 (.take 0 (.take 1 (.take 2 (.take 3 (.take 4 (.take 5 .done)))))) (by decide +kernel) ?_; (conv => whnf); fail_if_success (guard_target =~ False)) | (refine draw_i 6 (.take 0 (.take 1 (.take 2 (.take 3 (.alt 4 (.take 5 .done) .stop))))) (by decide +kernel) ?_; (conv => whnf); fail_if_success (guard_target =~ False)) | (refine draw_i 6 plGL08n_0 (by decide +kernel) ?_; (conv => whnf); fail_if_success (guard_target =~ False)) | ((with_reducible refine And.intro ?_ ?_) <;> (conv => whnf)) | (with_reducible exact trivial) | ((with_reducible refine branch_d (fun hq => ?_) (fun hq => ?_)) <;> (try (exfalso; omega)) <;> (conv => whnf)) | ((with_reducible refine branch_e (fun hq => ?_) (fun hq => ?_)) <;> (try (exfalso; omega)) <;> (conv => whnf)) | ((with_reducible refine branch_n (fun hq => ?_) (fun hq => ?_)) <;> (try (exfalso; omega)) <;> (conv => whnf)) | ((with_reducible refine branch_i (fun hq => ?_) (fun hq => ?_)) <;> (try (exfalso; omega)) <;> (conv => whnf))))
  refine loop_i (fun k : Nat => k ≤ l.length ∧ ∀ (j : Nat) y, j < k → l[j]? = some y → ¬ (y.1 = x.id ∧ y.2 = x.ver)) (fun k => mkSt [(0, .lst 2 (l.map encRef)), (3, .ptr 3 0), (7, .int .i64 (l.map encRef).length), (8, .int .i64 k)] [(3, encRef (refOf x))] false) (fun k => l.length - k) 0 ⟨Nat.zero_le _, nofun⟩ (le_mk (by repeat' (first | exact trivial | rfl | apply And.intro)) (by repeat' (first | exact trivial | rfl | apply And.intro)) rfl) ?_
  rintro k ⟨hk, hall⟩
  (conv => whnf); (repeat' (first | (refine arith_i ⟨by omega, by omega⟩ ?_; conv => whnf) | (refine arith_u ⟨by omega, by omega⟩ ?_; conv => whnf) | (refine arith_8 ⟨by omega, by omega⟩ ?_; conv => whnf) | (refine need_i (by first | omega | (simp only [List.length_append, List.length_cons, List.length_nil, List.length_map, List.length_replicate, List.length_modify]; omega)) ?_; conv => whnf) | ((with_reducible refine branch_tt ?_); conv => whnf) | ((with_reducible refine branch_ff ?_); conv => whnf) | (with_reducible refine branch_not ?_) | ((refine draw_i 6 (.take 0 (.take 1 (.take 2 (.take 3 (.take 4 (.alt 5 .done .stop)))))) (by decide +kernel) ?_); conv => whnf) | ((refine idx_c (xs := l) (by omega) fun y hy => ?_); conv => whnf) | ((refine eq_i guard_ref (fun w => eq_ref _ _ _ _ w) ?_); conv => whnf) | ((with_reducible refine slc_e ?_); conv => whnf) | ((with_reducible refine callS_a ?_); conv => whnf) | ((with_reducible refine own_e ?_); conv => whnf) | (refine draw_i 6 (.take 0 (.take 1 (.take 2 (.take 3 (.take 4 (.take 5 .done)))))) (by decide +kernel) ?_; (conv => whnf); fail_if_success (guard_target =~ False)) | (refine draw_i 6 (.take 0 (.take 1 (.take 2 (.take 3 (.alt 4 (.take 5 .done) .stop))))) (by decide +kernel) ?_; (conv => whnf); fail_if_success (guard_target =~ False)) | (refine draw_i 6 plGL08n_0 (by decide +kernel) ?_; (conv => whnf); fail_if_success (guard_target =~ False)) | ((with_reducible refine And.intro ?_ ?_) <;> (conv => whnf)) | (with_reducible exact trivial) | ((with_reducible refine branch_d (fun hq => ?_) (fun hq => ?_)) <;> (try (exfalso; omega)) <;> (conv => whnf)) | ((with_reducible refine branch_e (fun hq => ?_) (fun hq => ?_)) <;> (try (exfalso; omega)) <;> (conv => whnf)) | ((with_reducible refine branch_n (fun hq => ?_) (fun hq => ?_)) <;> (try (exfalso; omega)) <;> (conv => whnf)) | ((with_reducible refine branch_i (fun hq => ?_) (fun hq => ?_)) <;> (try (exfalso; omega)) <;> (conv => whnf))))
  all_goals first
    | (refine ret_p rfl ⟨_, rfl, ?_⟩
       rw [Bool.and_eq_true, beq_iff_eq, beq_iff_eq] at hq
       rw [hasR_good hy hq.1.symm hq.2.symm]
       simp; done)
    | (refine ⟨k + 1, ⟨by omega, fun j z hj hz => ?_⟩, (le_mk (by repeat' (first | exact trivial | rfl | apply And.intro)) (by repeat' (first | exact trivial | rfl | apply And.intro)) rfl), by omega⟩
       rcases Nat.lt_or_ge j k with h' | h'
       · exact hall j z h' hz
       · obtain rfl : j = k := by omega
         rw [hy] at hz; injection hz with hz; subst hz
         intro ⟨e1, e2⟩
         have : (x.id == y.1 && x.ver == y.2) = false := by assumption
         rw [e1, e2] at this
         simp at this)
    | (refine ret_p rfl ⟨_, rfl, ?_⟩
       rw [hasR_bad fun j y hj hjy => hall j y (by omega) hjy]
       rfl)
    | trace_state
set_option maxHeartbeats 2000000 in
theorem sHasR_ok (l : List (Int × Int)) (x : Itm) (hl : l.length ≤ 1000000) : Good Try.prog TT false 44 [.lst 2 (l.map encRef), .agg (encRef (refOf x))] (· = .bool (hasR l x)) := by
  refine good_of mixed tabOk Try.func44 rfl rfl Try.ntmps44 Try.results44 rfl rfl ?_
  (conv => whnf); (repeat' (first | (refine arith_i ⟨by omega, by omega⟩ ?_; conv => whnf) | (refine arith_u ⟨by omega, by omega⟩ ?_; conv => whnf) | (refine arith_8 ⟨by omega, by omega⟩ ?_; conv => whnf) | (refine need_i (by first | omega | (simp only [List.length_append, List.length_cons, List.length_nil, List.length_map, List.length_replicate, List.length_modify]; omega)) ?_; conv => whnf) | ((with_reducible refine branch_tt ?_); conv => whnf) | ((with_reducible refine branch_ff ?_); conv => whnf) | (with_reducible refine branch_not ?_) | (((refine call_i (sIndexR_ok l x hl) fun r hr => ?_; obtain ⟨n, rfl, hn⟩ := hr)); conv => whnf) | ((with_reducible refine slc_e ?_); conv => whnf) | ((with_reducible refine callS_a ?_); conv => whnf) | ((with_reducible refine own_e ?_); conv => whnf) | ((with_reducible refine branch_d (fun hq => ?_) (fun hq => ?_)) <;> (try (exfalso; omega)) <;> (conv => whnf)) | ((with_reducible refine branch_e (fun hq => ?_) (fun hq => ?_)) <;> (try (exfalso; omega)) <;> (conv => whnf)) | ((with_reducible refine branch_n (fun hq => ?_) (fun hq => ?_)) <;> (try (exfalso; omega)) <;> (conv => whnf)) | ((with_reducible refine branch_i (fun hq => ?_) (fun hq => ?_)) <;> (try (exfalso; omega)) <;> (conv => whnf))))
  exact ret_p rfl (bool_eq hn)
set_option maxHeartbeats 2000000 in
theorem val5_ok (x : Itm) (f : Frm) (hl : f.items.length ≤ 1000000) : Good Try.prog TT false 43 [itmV x, .ref (encFrm f)] (· = .int .i64 (oneF (usesB f x))) := by
  have L : (f.items.map encRef).length = f.items.length := List.length_map ..
  refine good_of mixed tabOk Try.func43 rfl rfl Try.ntmps43 Try.results43 rfl rfl ?_
  (conv => whnf); (repeat' (first | (refine arith_i ⟨by omega, by omega⟩ ?_; conv => whnf) | (refine arith_u ⟨by omega, by omega⟩ ?_; conv => whnf) | (refine arith_8 ⟨by omega, by omega⟩ ?_; conv => whnf) | (refine need_i (by first | omega | (simp only [List.length_append, List.length_cons, List.length_nil, List.length_map, List.length_replicate, List.length_modify]; omega)) ?_; conv => whnf) | ((with_reducible refine branch_tt ?_); conv => whnf) | ((with_reducible refine branch_ff ?_); conv => whnf) | (with_reducible refine branch_not ?_) | ((refine call_e (sHasR_ok f.items x hl) ?_); conv => whnf) | ((refine call_e (one_okB _) ?_); conv => whnf) | ((with_reducible refine slc_e ?_); conv => whnf) | ((with_reducible refine callS_a ?_); conv => whnf) | ((with_reducible refine own_e ?_); conv => whnf) | ((with_reducible refine branch_d (fun hq => ?_) (fun hq => ?_)) <;> (try (exfalso; omega)) <;> (conv => whnf)) | ((with_reducible refine branch_e (fun hq => ?_) (fun hq => ?_)) <;> (try (exfalso; omega)) <;> (conv => whnf)) | ((with_reducible refine branch_n (fun hq => ?_) (fun hq => ?_)) <;> (try (exfalso; omega)) <;> (conv => whnf)) | ((with_reducible refine branch_i (fun hq => ?_) (fun hq => ?_)) <;> (try (exfalso; omega)) <;> (conv => whnf))))
  exact ret_p rfl rfl
/- XGL08mP -/
set_option maxHeartbeats 2000000 in
theorem rowP_ok (items : List Itm) (a b : Int) (f : Frm) (hl : items.length ≤ 12) (hf : f.items.length ≤ 1000000) : Good Try.prog TT false 32 [itmsV items, .int .i64 a, .int .i64 b, .fn 43 [.ref (encFrm f)]] (· = .agg (encRow ⟨items.map (fun x => oneF (usesB f x)), a, b⟩)) := by
  have LI : (items.map encX).length = items.length := List.length_map ..
  refine good_of mixed tabOk Try.func32 rfl rfl Try.ntmps32 Try.results32 rfl rfl ?_
  (conv => whnf); (repeat' (first | (refine arith_i ⟨by omega, by omega⟩ ?_; conv => whnf) | (refine arith_u ⟨by omega, by omega⟩ ?_; conv => whnf) | (refine arith_8 ⟨by omega, by omega⟩ ?_; conv => whnf) | (refine need_i (by first | omega | (simp only [List.length_append, List.length_cons, List.length_nil, List.length_map, List.length_replicate, List.length_modify]; omega)) ?_; conv => whnf) | ((with_reducible refine branch_tt ?_); conv => whnf) | ((with_reducible refine branch_ff ?_); conv => whnf) | (with_reducible refine branch_not ?_) | ((with_reducible refine slc_e ?_); conv => whnf) | ((with_reducible refine callS_a ?_); conv => whnf) | ((with_reducible refine own_e ?_); conv => whnf) | ((with_reducible refine branch_d (fun hq => ?_) (fun hq => ?_)) <;> (try (exfalso; omega)) <;> (conv => whnf)) | ((with_reducible refine branch_e (fun hq => ?_) (fun hq => ?_)) <;> (try (exfalso; omega)) <;> (conv => whnf)) | ((with_reducible refine branch_n (fun hq => ?_) (fun hq => ?_)) <;> (try (exfalso; omega)) <;> (conv => whnf)) | ((with_reducible refine branch_i (fun hq => ?_) (fun hq => ?_)) <;> (try (exfalso; omega)) <;> (conv => whnf))))
  refine loop_i (fun k : Nat => k ≤ items.length) (fun k => mkSt [(1, .int .i64 a), (2, .int .i64 b), (3, .fn 43 [.ref (encFrm f)]), (8, .ptr 8 0), (9, .own 14 3 1 ((rowTo items (fun x => oneF (usesB f x)) k).map encI)), (15, itmsV items), (16, .int .i64 (items.map encX).length), (17, .int .i64 k)] [(8, [.nil, .int .i64 0, .int .i64 0])] false) (fun k => items.length - k) 0 (Nat.zero_le _) (le_mk ⟨rfl, rfl, rfl, rfl, (row_init (t := 14) (e := 3) (items := items) (v := (fun x => oneF (usesB f x)))).symm, rfl, rfl, rfl, trivial⟩ ⟨rfl, trivial⟩ rfl) ?_
  intro k hk
  have LR : ((rowTo items (fun x => oneF (usesB f x)) k).map encI).length = items.length := by simp [rowTo]; omega
  have LR2 : (rowTo items (fun x => oneF (usesB f x)) k).length = items.length := by simp [rowTo]; omega
  (conv => whnf); (repeat' (first | (refine arith_i ⟨by omega, by omega⟩ ?_; conv => whnf) | (refine arith_u ⟨by omega, by omega⟩ ?_; conv => whnf) | (refine arith_8 ⟨by omega, by omega⟩ ?_; conv => whnf) | (refine need_i (by first | omega | (simp only [List.length_append, List.length_cons, List.length_nil, List.length_map, List.length_replicate, List.length_modify]; omega)) ?_; conv => whnf) | ((with_reducible refine branch_tt ?_); conv => whnf) | ((with_reducible refine branch_ff ?_); conv => whnf) | (with_reducible refine branch_not ?_) | (((refine idx_c (xs := items) (by omega) fun x hx => ?_; have hxm := List.mem_of_getElem? hx)); conv => whnf) | ((refine idx_c (by omega) fun y hy => ?_); conv => whnf) | ((refine call_e (val5_ok x f hf) ?_); conv => whnf) | ((with_reducible refine slc_e ?_); conv => whnf) | ((with_reducible refine callS_a ?_); conv => whnf) | ((with_reducible refine own_e ?_); conv => whnf) | ((with_reducible refine branch_d (fun hq => ?_) (fun hq => ?_)) <;> (try (exfalso; omega)) <;> (conv => whnf)) | ((with_reducible refine branch_e (fun hq => ?_) (fun hq => ?_)) <;> (try (exfalso; omega)) <;> (conv => whnf)) | ((with_reducible refine branch_n (fun hq => ?_) (fun hq => ?_)) <;> (try (exfalso; omega)) <;> (conv => whnf)) | ((with_reducible refine branch_i (fun hq => ?_) (fun hq => ?_)) <;> (try (exfalso; omega)) <;> (conv => whnf))))
  · exact ⟨k + 1, by omega, le_mk ⟨rfl, rfl, rfl, rfl, (row_step (t := 14) (e := 3) (v := (fun x => oneF (usesB f x))) hx).symm, rfl, rfl, rfl, trivial⟩ ⟨rfl, trivial⟩ rfl, by omega⟩
  · exact ret_a (cs' := encRow ⟨items.map (fun x => oneF (usesB f x)), a, b⟩) ⟨rc_o' (by rw [rowTo, List.take_of_length_le (show items.length ≤ k by omega), show items.length - k = 0 by omega, List.replicate_zero, List.append_nil]), rc_p rfl, rc_p rfl, trivial⟩ rfl
theorem collect_ok (es ms : List (List AV)) (he : es.length ≤ 1000) (hm : ms.length ≤ 1000) : GoodM Try.prog TT false 31 [.ptr 1000 0, .lst 3 ms] [(1000, [.own 1100 69 3 es])]
    (fun r ov bx => r = .tup [] ∧ ov = [] ∧ bx = [(1000, [.own 1100 69 3 (es ++ ms)])]) := by
  refine good_of_m (fun _ => false) mixed tabOk Try.func31 rfl rfl Try.ntmps31 Try.results31 rfl rfl ?_
  (conv => whnf); (repeat' (first | (refine arith_i ⟨by omega, by omega⟩ ?_; conv => whnf) | (refine arith_u ⟨by omega, by omega⟩ ?_; conv => whnf) | (refine arith_8 ⟨by omega, by omega⟩ ?_; conv => whnf) | (refine need_i (by first | omega | (simp only [List.length_append, List.length_cons, List.length_nil, List.length_map, List.length_replicate, List.length_modify]; omega)) ?_; conv => whnf) | ((with_reducible refine branch_tt ?_); conv => whnf) | ((with_reducible refine branch_ff ?_); conv => whnf) | (with_reducible refine branch_not ?_) | ((with_reducible refine slc_e ?_); conv => whnf) | ((with_reducible refine callS_a ?_); conv => whnf) | ((with_reducible refine own_e ?_); conv => whnf) | ((with_reducible refine branch_d (fun hq => ?_) (fun hq => ?_)) <;> (try (exfalso; omega)) <;> (conv => whnf)) | ((with_reducible refine branch_e (fun hq => ?_) (fun hq => ?_)) <;> (try (exfalso; omega)) <;> (conv => whnf)) | ((with_reducible refine branch_n (fun hq => ?_) (fun hq => ?_)) <;> (try (exfalso; omega)) <;> (conv => whnf)) | ((with_reducible refine branch_i (fun hq => ?_) (fun hq => ?_)) <;> (try (exfalso; omega)) <;> (conv => whnf))))
  exact retM_i (.tup []) [] [(1000, [.own 1100 69 3 (es ++ ms)])] rfl (le_mk (by repeat' (first | exact trivial | rfl | apply And.intro)) (by repeat' (first | exact trivial | rfl | apply And.intro)) rfl) rfl ⟨rfl, rfl, rfl⟩
theorem idx_mr {n i : Nat} {v : Int} {j : Int} {K : List AV → Prop} (h0 : 0 ≤ j) (h1 : j < n) (h : ∀ y, K [.int .i64 y]) : idx ((List.replicate n [AV.int .i64 0]).modify i fun x => x.set 0 (.int .i64 v)) j K := by
  by_cases e : i = j.toNat
  · refine idx_i h0 ?_ (h v)
    rw [List.getElem?_modify, List.getElem?_replicate, if_pos (by omega), e]
    simp
  · refine idx_i h0 ?_ (h 0)
    rw [List.getElem?_modify, List.getElem?_replicate, if_pos (by omega)]
    simp [e]
theorem mod_set {xs : List Int} {i : Nat} {v : Int} : ((xs.map encI).modify i fun x => x.set 0 (.int .i64 v)) = (xs.set i v).map encI := by
  refine List.ext_getElem? fun k => ?_
  rw [List.getElem?_modify, List.getElem?_map, List.getElem?_map, List.getElem?_set]
  by_cases e : i = k
  · subst e
    rcases Nat.lt_or_ge i xs.length with h | h
    · simp [h, encI]
    · simp [h]
  · simp [e]
theorem pair_eq {n i j : Nat} (h1 : i < j) (h2 : j < n) : pairRow n i j = ⟨((List.replicate n 0).set i 1).set j 1, 0, 1⟩ := by
  unfold pairRow
  congr 1
  refine List.ext_getElem? fun k => ?_
  rw [List.getElem?_set, List.getElem?_set, List.getElem?_map, List.getElem?_replicate]
  rcases Nat.lt_or_ge k n with h | h
  · rw [List.getElem?_range h]
    simp only [List.length_set, List.length_replicate, Option.map_some, if_pos h]
    by_cases e1 : j = k
    · rw [if_pos e1, if_pos (by omega), if_pos (by omega)]
    · rw [if_neg e1]
      by_cases e2 : i = k
      · rw [if_pos e2, if_pos (by omega), if_pos (by omega)]
      · rw [if_neg e2, if_neg (by omega)]
  · rw [List.getElem?_eq_none (by simp; omega)]
    simp only [List.length_set, List.length_replicate]
    rw [if_neg (by omega), if_neg (by omega), if_neg (by omega)]
    rfl
theorem pairs_pre {items : List Itm} {i j : Nat} {rs : List Row} (hi : i < items.length) (hj : j ≤ items.length) (h : rs ++ pairJ items i (items.length - j) j ++ pairI items (items.length - (i + 1)) (i + 1) = pairsF items) : rs.length ≤ items.length * items.length := by
  have h1 := congrArg List.length h
  have h2 := pairI_len (l := items) (m := items.length) (i := 0)
  have e : pairsF items = pairI items items.length 0 := rfl
  rw [e] at h1
  simp only [List.length_append] at h1
  omega
theorem pairJ_step {items : List Itm} {i j : Nat} (hj : j < items.length) : pairJ items i (items.length - j) j = (bif clashB (itmAt items i) (itmAt items j) then [pairRow items.length i j] else []) ++ pairJ items i (items.length - (j + 1)) (j + 1) := by
  rw [show items.length - j = (items.length - (j + 1)) + 1 by omega, pairJ]
theorem pairI_step {items : List Itm} {i : Nat} (hi : i < items.length) : pairI items (items.length - i) i = pairJ items i (items.length - (i + 1)) (i + 1) ++ pairI items (items.length - (i + 1)) (i + 1) := by
  rw [show items.length - i = (items.length - (i + 1)) + 1 by omega, pairI]
theorem pairI_end {items : List Itm} {i : Nat} (hi : items.length ≤ i) : pairI items (items.length - i) i = [] := by
  rw [show items.length - i = 0 by omega, pairI]
theorem pairJ_end {items : List Itm} {i j : Nat} (hi : items.length ≤ j) : pairJ items i (items.length - j) j = [] := by
  rw [show items.length - j = 0 by omega, pairJ]
theorem pair_box {t e : Nat} {es : List (List AV)} {rs : List Row} {items : List Itm} {i j : Nat} (h1 : i < j) (h2 : j < items.length) :
    some [AV.own t e 3 ((es ++ rs.map encRow) ++ [[.lst 1 (((List.replicate ((items.map encX).length : Int).toNat [AV.int .i64 0]).modify (i : Int).toNat fun x => x.set 0 (.int .i64 1)).modify (j : Int).toNat fun x => x.set 0 (.int .i64 1)), .int .i64 0, .int .i64 1]])] = some [AV.own t e 3 (es ++ (rs ++ [pairRow items.length i j]).map encRow)] := by
  have e0 : List.replicate ((items.map encX).length : Int).toNat [AV.int .i64 0] = (List.replicate items.length 0).map encI := by simp [encI]
  rw [e0, mod_set, mod_set, pair_eq h1 h2, List.map_append, List.append_assoc]
  rfl
set_option maxHeartbeats 4000000 in
theorem pairs_ok (items : List Itm) (es : List (List AV)) (hl : items.length ≤ 12) (hs : ∀ x ∈ items, ItmS x) (he : es.length ≤ 100) : GoodM Try.prog TT false 42 [.ptr 1000 0, itmsV items] [(1000, [.own 1100 69 3 es])] (fun r ov bx => r = .tup [] ∧ ov = [] ∧ bx = [(1000, [.own 1100 69 3 (es ++ (pairsF items).map encRow)])]) := by
  have LI : (items.map encX).length = items.length := List.length_map ..
  have h144 : items.length * items.length ≤ 12 * 12 := Nat.mul_le_mul hl hl
  refine good_of_m (fun _ => false) mixed tabOk Try.func42 rfl rfl Try.ntmps42 Try.results42 rfl rfl ?_
  (conv => whnf); (repeat' (first | (refine arith_i ⟨by omega, by omega⟩ ?_; conv => whnf) | (refine arith_u ⟨by omega, by omega⟩ ?_; conv => whnf) | (refine arith_8 ⟨by omega, by omega⟩ ?_; conv => whnf) | (refine need_i (by first | omega | (simp only [List.length_append, List.length_cons, List.length_nil, List.length_map, List.length_replicate, List.length_modify]; omega)) ?_; conv => whnf) | ((with_reducible refine branch_tt ?_); conv => whnf) | ((with_reducible refine branch_ff ?_); conv => whnf) | (with_reducible refine branch_not ?_) | ((with_reducible refine slc_e ?_); conv => whnf) | ((with_reducible refine callS_a ?_); conv => whnf) | ((with_reducible refine own_e ?_); conv => whnf) | (refine draw_i 0 plGL08n_3 (by decide +kernel) ?_; (conv => whnf); fail_if_success (guard_target =~ False)) | (refine draw_i 23 plGL08n_1 (by decide +kernel) ?_; (conv => whnf); fail_if_success (guard_target =~ False)) | (refine draw_i 23 plGL08n_2 (by decide +kernel) ?_; (conv => whnf); fail_if_success (guard_target =~ False)) | ((with_reducible refine And.intro ?_ ?_) <;> (conv => whnf)) | (with_reducible exact trivial) | ((with_reducible refine branch_d (fun hq => ?_) (fun hq => ?_)) <;> (try (exfalso; omega)) <;> (conv => whnf)) | ((with_reducible refine branch_e (fun hq => ?_) (fun hq => ?_)) <;> (try (exfalso; omega)) <;> (conv => whnf)) | ((with_reducible refine branch_n (fun hq => ?_) (fun hq => ?_)) <;> (try (exfalso; omega)) <;> (conv => whnf)) | ((with_reducible refine branch_i (fun hq => ?_) (fun hq => ?_)) <;> (try (exfalso; omega)) <;> (conv => whnf))))
  refine loop_i2 (fun (i : Nat) (rs : List Row) => i ≤ items.length ∧ rs ++ pairI items (items.length - i) i = pairsF items) (fun i rs => mkSt [(0, .ptr 1000 0), (1, itmsV items), (8, .int .i64 (items.map encX).length), (9, .int .i64 i)] [(1000, [.own 1100 69 3 (es ++ rs.map encRow)])] false) (fun i _ => items.length - i) 0 [] ⟨Nat.zero_le _, rfl⟩ (le_mk ⟨rfl, rfl, rfl, rfl, trivial⟩ ⟨by rw [List.map_nil, List.append_nil]; rfl, trivial⟩ rfl) ?_
  rintro i rs ⟨hi, hrs⟩
  (conv => whnf); (repeat' (first | (refine arith_i ⟨by omega, by omega⟩ ?_; conv => whnf) | (refine arith_u ⟨by omega, by omega⟩ ?_; conv => whnf) | (refine arith_8 ⟨by omega, by omega⟩ ?_; conv => whnf) | (refine need_i (by first | omega | (simp only [List.length_append, List.length_cons, List.length_nil, List.length_map, List.length_replicate, List.length_modify]; omega)) ?_; conv => whnf) | ((with_reducible refine branch_tt ?_); conv => whnf) | ((with_reducible refine branch_ff ?_); conv => whnf) | (with_reducible refine branch_not ?_) | ((with_reducible refine slc_e ?_); conv => whnf) | ((with_reducible refine callS_a ?_); conv => whnf) | ((with_reducible refine own_e ?_); conv => whnf) | (refine draw_i 0 plGL08n_3 (by decide +kernel) ?_; (conv => whnf); fail_if_success (guard_target =~ False)) | (refine draw_i 23 plGL08n_1 (by decide +kernel) ?_; (conv => whnf); fail_if_success (guard_target =~ False)) | (refine draw_i 23 plGL08n_2 (by decide +kernel) ?_; (conv => whnf); fail_if_success (guard_target =~ False)) | ((with_reducible refine And.intro ?_ ?_) <;> (conv => whnf)) | (with_reducible exact trivial) | ((with_reducible refine branch_d (fun hq => ?_) (fun hq => ?_)) <;> (try (exfalso; omega)) <;> (conv => whnf)) | ((with_reducible refine branch_e (fun hq => ?_) (fun hq => ?_)) <;> (try (exfalso; omega)) <;> (conv => whnf)) | ((with_reducible refine branch_n (fun hq => ?_) (fun hq => ?_)) <;> (try (exfalso; omega)) <;> (conv => whnf)) | ((with_reducible refine branch_i (fun hq => ?_) (fun hq => ?_)) <;> (try (exfalso; omega)) <;> (conv => whnf))))
  · rw [pairI_step (by omega), ← List.append_assoc] at hrs
    refine loop_i2 (fun (j : Nat) (rs : List Row) => i < j ∧ j ≤ items.length ∧ rs ++ pairJ items i (items.length - j) j ++ pairI items (items.length - (i + 1)) (i + 1) = pairsF items) (fun j rs => mkSt [(0, .ptr 1000 0), (1, itmsV items), (4, .int .i64 i), (5, .int .i64 j), (8, .int .i64 (items.map encX).length), (9, .int .i64 i)] [(1000, [.own 1100 69 3 (es ++ rs.map encRow)])] false) (fun j _ => items.length - j) (i + 1) rs ⟨by omega, by omega, hrs⟩ (le_mk ⟨rfl, rfl, rfl, by rw [Int.natCast_add]; rfl, rfl, rfl, trivial⟩ ⟨rfl, trivial⟩ rfl) ?_
    rintro j rs ⟨hij, hj, hrs⟩
    have hrl := pairs_pre (by omega) hj hrs
    have LRS : (rs.map encRow).length = rs.length := List.length_map ..
    (conv => whnf); (repeat' (first | (refine arith_i ⟨by omega, by omega⟩ ?_; conv => whnf) | (refine arith_u ⟨by omega, by omega⟩ ?_; conv => whnf) | (refine arith_8 ⟨by omega, by omega⟩ ?_; conv => whnf) | (refine need_i (by first | omega | (simp only [List.length_append, List.length_cons, List.length_nil, List.length_map, List.length_replicate, List.length_modify]; omega)) ?_; conv => whnf) | ((with_reducible refine branch_tt ?_); conv => whnf) | ((with_reducible refine branch_ff ?_); conv => whnf) | (with_reducible refine branch_not ?_) | ((refine draw_i 23 (.take 0 (.take 1 (.take 2 (.take 3 (.take 4 (.take 5 (.take 6 (.take 7 (.take 8 (.take 9 (.take 10 (.take 11 (.take 12 (.take 13 (.take 14 (.take 15 (.take 16 (.take 17 (.take 18 (.take 19 (.alt 20 (.take 21 (.take 22 .done)) .stop))))))))))))))))))))) (by decide +kernel) ?_); conv => whnf) | ((((with_reducible refine And.intro ?_ ?_) <;> (conv => whnf))); conv => whnf) | ((refine idx_cs (by assumption) ?_); conv => whnf) | (((refine idx_c (xs := items) (k := i) (by omega) fun x hx => ?_; have hxs := hs x (List.mem_of_getElem? hx); have hxa := itmAt_eq hx)); conv => whnf) | (((refine idx_c (xs := items) (k := j) (by omega) fun y hy => ?_; have hys := hs y (List.mem_of_getElem? hy); have hya := itmAt_eq hy; rw [pairJ_step (by omega), hxa, hya] at hrs)); conv => whnf) | ((refine call_e (enemy_ok x y hxs hys) ?_); conv => whnf) | ((refine idx_r (by omega) (by omega) ?_); conv => whnf) | ((refine idx_mr (by omega) (by omega) fun z => ?_); conv => whnf) | (((refine mcall_i [(1000, 1000)] [(1100, 1100)] _ (le_erase 55) (collect_ok (es ++ rs.map encRow) _ (by simp; omega) (by simp)) rfl rfl rfl ⟨⟨_, rfl, rfl, rfl⟩, trivial⟩ ?_; rintro r ov bx' ⟨rfl, rfl, rfl⟩; refine ⟨rfl, ?_⟩)); conv => whnf) | ((with_reducible refine slc_e ?_); conv => whnf) | ((with_reducible refine callS_a ?_); conv => whnf) | ((with_reducible refine own_e ?_); conv => whnf) | (refine draw_i 0 plGL08n_3 (by decide +kernel) ?_; (conv => whnf); fail_if_success (guard_target =~ False)) | (refine draw_i 23 plGL08n_1 (by decide +kernel) ?_; (conv => whnf); fail_if_success (guard_target =~ False)) | (refine draw_i 23 plGL08n_2 (by decide +kernel) ?_; (conv => whnf); fail_if_success (guard_target =~ False)) | ((with_reducible refine And.intro ?_ ?_) <;> (conv => whnf)) | (with_reducible exact trivial) | ((with_reducible refine branch_d (fun hq => ?_) (fun hq => ?_)) <;> (try (exfalso; omega)) <;> (conv => whnf)) | ((with_reducible refine branch_e (fun hq => ?_) (fun hq => ?_)) <;> (try (exfalso; omega)) <;> (conv => whnf)) | ((with_reducible refine branch_n (fun hq => ?_) (fun hq => ?_)) <;> (try (exfalso; omega)) <;> (conv => whnf)) | ((with_reducible refine branch_i (fun hq => ?_) (fun hq => ?_)) <;> (try (exfalso; omega)) <;> (conv => whnf))))
    all_goals first
      | (have hcl : clashB x y = true := by simp [clashB, *]
         rw [hcl, cond_true, ← List.append_assoc] at hrs
         refine ⟨j + 1, rs ++ [pairRow items.length i j], ⟨by omega, by omega, hrs⟩, le_mk ⟨rfl, rfl, rfl, by rw [Int.natCast_add]; rfl, rfl, rfl, trivial⟩ ⟨pair_box hij (by omega), trivial⟩ rfl, by omega⟩)
      | (have hcl : clashB x y = false := by simp [clashB, *]
         rw [hcl, cond_false, List.nil_append] at hrs
         exact ⟨j + 1, rs, ⟨by omega, by omega, hrs⟩, le_mk ⟨rfl, rfl, rfl, by rw [Int.natCast_add]; rfl, rfl, rfl, trivial⟩ ⟨rfl, trivial⟩ rfl, by omega⟩)
      | (rw [pairJ_end (by omega), List.append_nil] at hrs
         exact ⟨i + 1, rs, ⟨by omega, hrs⟩, le_mk ⟨rfl, rfl, rfl, by rw [Int.natCast_add]; rfl, trivial⟩ ⟨rfl, trivial⟩ rfl, by omega⟩)
      | trace_state
  · rw [pairI_end (by omega), List.append_nil] at hrs
    rw [← hrs]
    exact retM_i (.tup []) [] [(1000, [.own 1100 69 3 (es ++ rs.map encRow)])] rfl (le_mk (by repeat' (first | exact trivial | rfl | apply And.intro)) (by repeat' (first | exact trivial | rfl | apply And.intro)) rfl) rfl ⟨rfl, rfl, rfl⟩
end Go.Proofs.Ytjgaacjfoaohnaa
