/- Several texts in one: GL25i, GL25j, GL25w, GL25t, GL25y, GBrM, GBrM3, GL25K. -/
import Derived.Test.YtpmoflggmdfmnaaX6
import Derived.Test.YtpmoflggmdfmnaaX5
import Derived.Test.YtpmoflggmdfmnaaX1
import Derived.Test.YtpmoflggmdfmnaaFrame
import Derived.Deep.Slices
import Derived.Deep.Fields
import Derived.ChangeSame
/- Layer 25: Least, Allocate, Witness of the reference. -/
section
namespace Go.Proofs.Ytpmoflggmdfmnaa
set_option linter.unusedVariables false
set_option linter.unusedSimpArgs false
set_option linter.unnecessarySimpa false
set_option linter.unusedSectionVars false
set_option maxRecDepth 10000
open Go.RowKit
def plGL25i_0 : Plan := (.take 0 (.take 1 (.take 2 (.take 3 (.take 4 (.take 5 (.take 6 (.take 7 (.take 8 (.take 9 (.take 10 (.take 11 (.alt 12 (.alt 13 (.take 14 .done) .stop) .stop)))))))))))))
def plGL25i_1 : Plan := (.take 0 (.take 1 (.take 2 (.take 3 (.take 4 (.take 6 (.take 7 (.take 8 (.take 9 (.alt 5 (.alt 10 (.take 11 (.alt 12 (.alt 13 (.take 14 .done) .stop) .stop)) .stop) (.alt 10 (.alt 5 (.take 11 (.alt 12 (.alt 13 (.take 14 .done) .stop) .stop)) .stop) .stop)))))))))))
set_option maxHeartbeats 4000000 in
theorem rLeast_ok (l : List Mrk) (s : List Scr) (k : Int) (hl : MksOk l) (hs : ScsOk s) : Good Try.prog TT false 16 [mrksV l, scrsV s, .int .i64 k] (· = .tup [.int .i64 (((lstF l s k).getD 0 : Nat)), .bool (lstF l s k).isSome]) := by
  have h16 := hl.len
  have h60 := hs.len
  cases hk : okK k with
  | false =>
    have e : lstF l s k = none := by rw [lstF, if_neg (by simp [hk])]
    rw [e]
    refine good_of mixed tabOk Try.func16 rfl rfl Try.ntmps16 Try.results16 rfl rfl ?_
    (conv => whnf); (repeat' (first | (refine arith_i ⟨by omega, by omega⟩ ?_; conv => whnf) | (refine arith_u ⟨by omega, by omega⟩ ?_; conv => whnf) | (refine arith_8 ⟨by omega, by omega⟩ ?_; conv => whnf) | (refine need_i (by first | omega | (simp only [List.length_cons, List.length_nil]; omega) | (simp only [List.length_append, List.length_cons, List.length_nil, List.length_map, List.length_replicate, List.length_modify]; omega)) ?_; conv => whnf) | ((with_reducible first | refine branch_tt ?_ | refine branch_ff ?_); conv => whnf) | (with_reducible refine branch_not ?_) | ((refine call_e ((rRight_ok l s k hl hs).mono fun r h => h.trans (bool_eq hk)) ?_); conv => whnf) | ((with_reducible first | refine slc_e ?_ | refine callS_a ?_ | refine bld_a ?_ | refine own_e ?_ | refine mkmap_b ?_); conv => whnf) | ((with_reducible first | refine branch_d (fun hq => ?_) (fun hq => ?_) | refine branch_e (fun hq => ?_) (fun hq => ?_) | refine branch_n (fun hq => ?_) (fun hq => ?_) | refine branch_i (fun hq => ?_) (fun hq => ?_)) <;> (try (exfalso; omega)) <;> (conv => whnf))))
    exact ret_t (rs := [.int .i64 0, .bool false]) ⟨(rc_p rfl).g, (rc_p rfl).g, trivial⟩ rfl
  | true =>
    obtain ⟨q, rfl, hq1, hq2⟩ := okK_in hk
    have e : lstF l s q = bestF (elF l s) (capF l) s.length l.length q 61 0 := by rw [lstF, if_pos hk, Int.toNat_natCast, ← best_far (c := 61) (by omega)]
    obtain ⟨o, ho⟩ : ∃ o, o = bestF (elF l s) (capF l) s.length l.length q 61 0 := ⟨_, rfl⟩
    rw [e, ← ho]
    refine good_of mixed tabOk Try.func16 rfl rfl Try.ntmps16 Try.results16 rfl rfl ?_
    (conv => whnf); (repeat' (first | (refine arith_i ⟨by omega, by omega⟩ ?_; conv => whnf) | (refine arith_u ⟨by omega, by omega⟩ ?_; conv => whnf) | (refine arith_8 ⟨by omega, by omega⟩ ?_; conv => whnf) | (refine need_i (by first | omega | (simp only [List.length_cons, List.length_nil]; omega) | (simp only [List.length_append, List.length_cons, List.length_nil, List.length_map, List.length_replicate, List.length_modify]; omega)) ?_; conv => whnf) | ((with_reducible first | refine branch_tt ?_ | refine branch_ff ?_); conv => whnf) | (with_reducible refine branch_not ?_) | ((refine call_e ((rRight_ok l s q hl hs).mono fun r h => h.trans (bool_eq hk)) ?_); conv => whnf) | ((with_reducible first | refine slc_e ?_ | refine callS_a ?_ | refine bld_a ?_ | refine own_e ?_ | refine mkmap_b ?_); conv => whnf) | ((with_reducible first | refine branch_d (fun hq => ?_) (fun hq => ?_) | refine branch_e (fun hq => ?_) (fun hq => ?_) | refine branch_n (fun hq => ?_) (fun hq => ?_) | refine branch_i (fun hq => ?_) (fun hq => ?_)) <;> (try (exfalso; omega)) <;> (conv => whnf))))
    refine loop_i (fun c : Nat => c ≤ 61 ∧ o = bestF (elF l s) (capF l) s.length l.length q (61 - c) c) (fun c => mkSt [(0, mrksV l), (1, scrsV s), (2, .int .i64 q), (8, .int .i64 c)] [] false) (fun c => 61 - c) 0 ⟨by omega, ho⟩ (le_mk (by repeat' (first | exact trivial | rfl | apply And.intro)) (by repeat' (first | exact trivial | rfl | apply And.intro)) rfl) ?_
    rintro c ⟨hc, hF⟩
    rcases Nat.lt_or_ge c 61 with hcl | hcl
    · have hNew := start_ok l s c hl hs (by omega)
      have hlim : ∀ m, m < l.length → limF (capF l) c m ≤ 1000 := fun m hm => by unfold limF; omega
      have hFill := rFill_ok l s (limF (capF l) c) hl hs hlim q hq2 flw0 wf_0
      rw [show 61 - c = (61 - (c + 1)) + 1 by omega, bestF] at hF
      (conv => whnf); (repeat' (first | (refine arith_i ⟨by omega, by omega⟩ ?_; conv => whnf) | (refine arith_u ⟨by omega, by omega⟩ ?_; conv => whnf) | (refine arith_8 ⟨by omega, by omega⟩ ?_; conv => whnf) | (refine need_i (by first | omega | (simp only [List.length_cons, List.length_nil]; omega) | (simp only [List.length_append, List.length_cons, List.length_nil, List.length_map, List.length_replicate, List.length_modify]; omega)) ?_; conv => whnf) | ((with_reducible first | refine branch_tt ?_ | refine branch_ff ?_); conv => whnf) | (with_reducible refine branch_not ?_) | (((refine acall_m ?_; refine rcall_e [] [] [(12, 950)] [(901, 911), (902, 912)] hNew rfl rfl rfl rfl trivial rfl ?_)); conv => whnf) | (((refine rcall_i [(1000, 950)] [(1101, 911), (1102, 912)] [] [] _ Le.refl hFill rfl rfl rfl rfl ⟨⟨_, rfl, rfl, rfl⟩, trivial⟩ ?_; rintro r ov bx' ⟨rfl, rfl, hr⟩; rcases hr with ⟨h1, rfl⟩ | ⟨i, h1, rfl⟩ <;> refine ⟨rfl, ?_⟩ <;> (conv => whnf))); conv => whnf) | ((with_reducible first | refine slc_e ?_ | refine callS_a ?_ | refine bld_a ?_ | refine own_e ?_ | refine mkmap_b ?_); conv => whnf) | ((with_reducible first | refine branch_d (fun hq => ?_) (fun hq => ?_) | refine branch_e (fun hq => ?_) (fun hq => ?_) | refine branch_n (fun hq => ?_) (fun hq => ?_) | refine branch_i (fun hq => ?_) (fun hq => ?_)) <;> (try (exfalso; omega)) <;> (conv => whnf))))
      · have e2 : okF (elF l s) (capF l) s.length l.length q c = true := by rw [okF, h1]; rfl
        rw [if_pos e2] at hF
        rw [hF]
        exact ret_t (rs := [.int .i64 (c : Nat), .bool true]) ⟨(rc_p rfl).g, (rc_p rfl).g, trivial⟩ rfl
      · have e2 : ¬ okF (elF l s) (capF l) s.length l.length q c = true := by rw [okF, h1]; simp
        rw [if_neg e2] at hF
        exact ⟨c + 1, ⟨by omega, hF⟩, (le_mk (by repeat' (first | exact trivial | rfl | apply And.intro)) (by repeat' (first | exact trivial | rfl | apply And.intro)) rfl), by omega⟩
    · rw [show 61 - c = 0 by omega, bestF] at hF
      rw [hF]
      (conv => whnf); (repeat' (first | (refine arith_i ⟨by omega, by omega⟩ ?_; conv => whnf) | (refine arith_u ⟨by omega, by omega⟩ ?_; conv => whnf) | (refine arith_8 ⟨by omega, by omega⟩ ?_; conv => whnf) | (refine need_i (by first | omega | (simp only [List.length_cons, List.length_nil]; omega) | (simp only [List.length_append, List.length_cons, List.length_nil, List.length_map, List.length_replicate, List.length_modify]; omega)) ?_; conv => whnf) | ((with_reducible first | refine branch_tt ?_ | refine branch_ff ?_); conv => whnf) | (with_reducible refine branch_not ?_) | ((with_reducible first | refine slc_e ?_ | refine callS_a ?_ | refine bld_a ?_ | refine own_e ?_ | refine mkmap_b ?_); conv => whnf) | ((with_reducible first | refine branch_d (fun hq => ?_) (fun hq => ?_) | refine branch_e (fun hq => ?_) (fun hq => ?_) | refine branch_n (fun hq => ?_) (fun hq => ?_) | refine branch_i (fun hq => ?_) (fun hq => ?_)) <;> (try (exfalso; omega)) <;> (conv => whnf))))
      exact ret_t (rs := [.int .i64 0, .bool false]) ⟨(rc_p rfl).g, (rc_p rfl).g, trivial⟩ rfl
set_option maxHeartbeats 4000000 in
theorem rAllocate_ok (l : List Mrk) (s : List Scr) (k : Int) (hl : MksOk l) (hs : ScsOk s) : Good Try.prog TT false 18 [mrksV l, scrsV s, .int .i64 k] (AllR l s k) := by
  have LL : (l.map encM).length = l.length := List.length_map ..
  have LS : (s.map encR).length = s.length := List.length_map ..
  have h16 := hl.len
  have h60 := hs.len
  have hLe := rLeast_ok l s k hl hs
  cases hk : okK k with
  | false =>
    refine good_of mixed tabOk Try.func18 rfl rfl Try.ntmps18 Try.results18 rfl rfl ?_
    (conv => whnf); (repeat' (first | (refine arith_i ⟨by omega, by omega⟩ ?_; conv => whnf) | (refine arith_u ⟨by omega, by omega⟩ ?_; conv => whnf) | (refine arith_8 ⟨by omega, by omega⟩ ?_; conv => whnf) | (refine need_i (by first | omega | (simp only [List.length_cons, List.length_nil]; omega) | (simp only [List.length_append, List.length_cons, List.length_nil, List.length_map, List.length_replicate, List.length_modify]; omega)) ?_; conv => whnf) | ((with_reducible first | refine branch_tt ?_ | refine branch_ff ?_); conv => whnf) | (with_reducible refine branch_not ?_) | ((refine call_e ((rRight_ok l s k hl hs).mono fun r h => h.trans (bool_eq hk)) ?_); conv => whnf) | ((with_reducible first | refine slc_e ?_ | refine callS_a ?_ | refine bld_a ?_ | refine own_e ?_ | refine mkmap_b ?_); conv => whnf) | (refine draw_i 15 plGL25i_0 (by decide +kernel) ?_; (conv => whnf); fail_if_success (guard_target =~ False)) | (refine draw_i 15 plGL25i_1 (by decide +kernel) ?_; (conv => whnf); fail_if_success (guard_target =~ False)) | ((with_reducible refine And.intro ?_ ?_) <;> (conv => whnf)) | (with_reducible exact trivial) | ((with_reducible first | refine branch_d (fun hq => ?_) (fun hq => ?_) | refine branch_e (fun hq => ?_) (fun hq => ?_) | refine branch_n (fun hq => ?_) (fun hq => ?_) | refine branch_i (fun hq => ?_) (fun hq => ?_)) <;> (try (exfalso; omega)) <;> (conv => whnf))))
    exact ret_t (rs := [.lst 2 [], .int .i64 1]) ⟨.inl rc_n, (rc_p rfl).g, trivial⟩ (.inl ⟨hk, rfl⟩)
  | true =>
    obtain ⟨q, rfl, hq1, hq2⟩ := okK_in hk
    have e : lstF l s q = leastF (elF l s) (capF l) s.length l.length q := by rw [lstF, if_pos hk, Int.toNat_natCast]
    rw [e] at hLe
    cases h1 : leastF (elF l s) (capF l) s.length l.length q with
    | none =>
      rw [h1] at hLe
      replace hLe : Good Try.prog TT false 16 [mrksV l, scrsV s, .int .i64 q] (· = .tup [.int .i64 (0 : Nat), .bool false]) := hLe
      refine good_of mixed tabOk Try.func18 rfl rfl Try.ntmps18 Try.results18 rfl rfl ?_
      (conv => whnf); (repeat' (first | (refine arith_i ⟨by omega, by omega⟩ ?_; conv => whnf) | (refine arith_u ⟨by omega, by omega⟩ ?_; conv => whnf) | (refine arith_8 ⟨by omega, by omega⟩ ?_; conv => whnf) | (refine need_i (by first | omega | (simp only [List.length_cons, List.length_nil]; omega) | (simp only [List.length_append, List.length_cons, List.length_nil, List.length_map, List.length_replicate, List.length_modify]; omega)) ?_; conv => whnf) | ((with_reducible first | refine branch_tt ?_ | refine branch_ff ?_); conv => whnf) | (with_reducible refine branch_not ?_) | ((refine call_e ((rRight_ok l s q hl hs).mono fun r h => h.trans (bool_eq hk)) ?_); conv => whnf) | ((refine call_e hLe ?_); conv => whnf) | ((with_reducible first | refine slc_e ?_ | refine callS_a ?_ | refine bld_a ?_ | refine own_e ?_ | refine mkmap_b ?_); conv => whnf) | (refine draw_i 15 plGL25i_0 (by decide +kernel) ?_; (conv => whnf); fail_if_success (guard_target =~ False)) | (refine draw_i 15 plGL25i_1 (by decide +kernel) ?_; (conv => whnf); fail_if_success (guard_target =~ False)) | ((with_reducible refine And.intro ?_ ?_) <;> (conv => whnf)) | (with_reducible exact trivial) | ((with_reducible first | refine branch_d (fun hq => ?_) (fun hq => ?_) | refine branch_e (fun hq => ?_) (fun hq => ?_) | refine branch_n (fun hq => ?_) (fun hq => ?_) | refine branch_i (fun hq => ?_) (fun hq => ?_)) <;> (try (exfalso; omega)) <;> (conv => whnf))))
      exact ret_t (rs := [.lst 2 [], .int .i64 41]) ⟨.inl rc_n, (rc_p rfl).g, trivial⟩ (.inr (.inl ⟨hk, e.trans h1, rfl⟩))
    | some a =>
      rw [h1] at hLe
      replace hLe : Good Try.prog TT false 16 [mrksV l, scrsV s, .int .i64 q] (· = .tup [.int .i64 (a : Nat), .bool true]) := hLe
      have ha := least_le h1
      have hNew := start_ok l s a hl hs (by omega)
      have hlim : ∀ m, m < l.length → limF (capF l) a m ≤ 1000 := fun m hm => by unfold limF; omega
      have hFill := rFill_ok l s (limF (capF l) a) hl hs hlim q hq2 flw0 wf_0
      have hok : (fillF (elF l s) (limF (capF l) a) s.length l.length q (List.range s.length) flw0).1 = none := by
        have := (least_iff.1 h1).1
        rw [okF, Option.isNone_iff_eq_none] at this
        exact this
      generalize hp : fillF (elF l s) (limF (capF l) a) s.length l.length q (List.range s.length) flw0 = p at hFill hok
      obtain ⟨o, s'⟩ := p
      obtain rfl : o = none := hok
      have hU : Upto (elF l s) (limF (capF l) a) s.length l.length q s.length s' := fill_won (k := 0) rfl (Nat.zero_le _) upto_0 hp
      refine good_of mixed tabOk Try.func18 rfl rfl Try.ntmps18 Try.results18 rfl rfl ?_
      (conv => whnf); (repeat' (first | (refine arith_i ⟨by omega, by omega⟩ ?_; conv => whnf) | (refine arith_u ⟨by omega, by omega⟩ ?_; conv => whnf) | (refine arith_8 ⟨by omega, by omega⟩ ?_; conv => whnf) | (refine need_i (by first | omega | (simp only [List.length_cons, List.length_nil]; omega) | (simp only [List.length_append, List.length_cons, List.length_nil, List.length_map, List.length_replicate, List.length_modify]; omega)) ?_; conv => whnf) | ((with_reducible first | refine branch_tt ?_ | refine branch_ff ?_); conv => whnf) | (with_reducible refine branch_not ?_) | ((refine call_e ((rRight_ok l s q hl hs).mono fun r h => h.trans (bool_eq hk)) ?_); conv => whnf) | ((refine call_e hLe ?_); conv => whnf) | (((refine acall_m ?_; refine rcall_e [] [] [(12, 950)] [(901, 911), (902, 912)] hNew rfl rfl rfl rfl trivial rfl ?_)); conv => whnf) | (((refine rcall_i [(1000, 950)] [(1101, 911), (1102, 912)] [] [] _ Le.refl hFill rfl rfl rfl rfl ⟨⟨_, rfl, rfl, rfl⟩, trivial⟩ ?_; rintro r ov bx' ⟨rfl, rfl, hr⟩; rcases hr with ⟨h1', rfl⟩ | ⟨i, h1', rfl⟩ <;> refine ⟨rfl, ?_⟩ <;> (conv => whnf))); conv => whnf) | ((with_reducible first | refine slc_e ?_ | refine callS_a ?_ | refine bld_a ?_ | refine own_e ?_ | refine mkmap_b ?_); conv => whnf) | (refine draw_i 15 plGL25i_0 (by decide +kernel) ?_; (conv => whnf); fail_if_success (guard_target =~ False)) | (refine draw_i 15 plGL25i_1 (by decide +kernel) ?_; (conv => whnf); fail_if_success (guard_target =~ False)) | ((with_reducible refine And.intro ?_ ?_) <;> (conv => whnf)) | (with_reducible exact trivial) | ((with_reducible first | refine branch_d (fun hq => ?_) (fun hq => ?_) | refine branch_e (fun hq => ?_) (fun hq => ?_) | refine branch_n (fun hq => ?_) (fun hq => ?_) | refine branch_i (fun hq => ?_) (fun hq => ?_)) <;> (try (exfalso; omega)) <;> (conv => whnf))))
      all_goals try (exfalso; cases h1'; done)
      have LM : (rowsC s.length l.length s'.A).length = l.length := rowsC_len
      refine loop_i (fun i : Nat => i ≤ s.length) (fun i => mkSt [(0, mrksV l), (1, scrsV s), (10, .ptr 950 0), (11, .own 920 47 2 ((tasksT l s s'.A i).map encT)), (12, .int .i64 i)] [(950, rflowG 911 912 l s (limF (capF l) a) s')] false) (fun i => s.length - i) 0 (Nat.zero_le _) (Le.trans (le_adopt 11 920 47 2 rfl) (le_mk (by repeat' (first | exact trivial | rfl | apply And.intro)) (by repeat' (first | exact trivial | rfl | apply And.intro)) rfl)) ?_
      intro i hi
      have LT := tasksT_len (l := l) (s := s) (A := s'.A) (n := i)
      have LT2 : ((tasksT l s s'.A i).map encT).length = (tasksT l s s'.A i).length := List.length_map ..
      have hb : i * l.length ≤ 60 * 16 := Nat.mul_le_mul (by omega) h16
      rcases Nat.lt_or_ge i s.length with hil | hil
      · obtain ⟨x, hx⟩ : ∃ x, s[i]? = some x := ⟨_, List.getElem?_eq_getElem hil⟩
        (conv => whnf); (repeat' (first | (refine arith_i ⟨by omega, by omega⟩ ?_; conv => whnf) | (refine arith_u ⟨by omega, by omega⟩ ?_; conv => whnf) | (refine arith_8 ⟨by omega, by omega⟩ ?_; conv => whnf) | (refine need_i (by first | omega | (simp only [List.length_cons, List.length_nil]; omega) | (simp only [List.length_append, List.length_cons, List.length_nil, List.length_map, List.length_replicate, List.length_modify]; omega)) ?_; conv => whnf) | ((with_reducible first | refine branch_tt ?_ | refine branch_ff ?_); conv => whnf) | (with_reducible refine branch_not ?_) | ((with_reducible first | refine slc_e ?_ | refine callS_a ?_ | refine bld_a ?_ | refine own_e ?_ | refine mkmap_b ?_); conv => whnf) | (refine draw_i 15 plGL25i_0 (by decide +kernel) ?_; (conv => whnf); fail_if_success (guard_target =~ False)) | (refine draw_i 15 plGL25i_1 (by decide +kernel) ?_; (conv => whnf); fail_if_success (guard_target =~ False)) | ((with_reducible refine And.intro ?_ ?_) <;> (conv => whnf)) | (with_reducible exact trivial) | ((with_reducible first | refine branch_d (fun hq => ?_) (fun hq => ?_) | refine branch_e (fun hq => ?_) (fun hq => ?_) | refine branch_n (fun hq => ?_) (fun hq => ?_) | refine branch_i (fun hq => ?_) (fun hq => ?_)) <;> (try (exfalso; omega)) <;> (conv => whnf))))
        refine loop_i (fun m : Nat => m ≤ l.length) (fun m => mkSt [(0, mrksV l), (1, scrsV s), (10, .ptr 950 0), (11, .own 920 47 2 ((tasksT l s s'.A i ++ rowT l s s'.A i m).map encT)), (12, .int .i64 i), (13, .int .i64 m)] [(950, rflowG 911 912 l s (limF (capF l) a) s')] false) (fun m => l.length - m) 0 (Nat.zero_le _) (by rw [show rowT l s s'.A i 0 = [] from rfl, List.append_nil]; exact (le_mk (by repeat' (first | exact trivial | rfl | apply And.intro)) (by repeat' (first | exact trivial | rfl | apply And.intro)) rfl)) ?_
        intro m hm
        have LR := rowT_len (l := l) (s := s) (A := s'.A) (i := i) (k := m)
        have LR2 : ((tasksT l s s'.A i ++ rowT l s s'.A i m).map encT).length = (tasksT l s s'.A i).length + (rowT l s s'.A i m).length := by simp
        rcases Nat.lt_or_ge m l.length with hml | hml
        · obtain ⟨y, hy⟩ : ∃ y, l[m]? = some y := ⟨_, List.getElem?_eq_getElem hml⟩
          (conv => whnf); (repeat' (first | (refine arith_i ⟨by omega, by omega⟩ ?_; conv => whnf) | (refine arith_u ⟨by omega, by omega⟩ ?_; conv => whnf) | (refine arith_8 ⟨by omega, by omega⟩ ?_; conv => whnf) | (refine need_i (by first | omega | (simp only [List.length_cons, List.length_nil]; omega) | (simp only [List.length_append, List.length_cons, List.length_nil, List.length_map, List.length_replicate, List.length_modify]; omega)) ?_; conv => whnf) | ((with_reducible first | refine branch_tt ?_ | refine branch_ff ?_); conv => whnf) | (with_reducible refine branch_not ?_) | ((refine idx_cs hy ?_); conv => whnf) | ((refine idx_cs hx ?_); conv => whnf) | ((refine ridx_f (m := m) rfl (by omega) ?_); conv => whnf) | ((refine idx_f (m := i) rfl (by omega) ?_); conv => whnf) | ((with_reducible first | refine slc_e ?_ | refine callS_a ?_ | refine bld_a ?_ | refine own_e ?_ | refine mkmap_b ?_); conv => whnf) | (refine draw_i 15 plGL25i_0 (by decide +kernel) ?_; (conv => whnf); fail_if_success (guard_target =~ False)) | (refine draw_i 15 plGL25i_1 (by decide +kernel) ?_; (conv => whnf); fail_if_success (guard_target =~ False)) | ((with_reducible refine And.intro ?_ ?_) <;> (conv => whnf)) | (with_reducible exact trivial) | ((with_reducible first | refine branch_d (fun hq => ?_) (fun hq => ?_) | refine branch_e (fun hq => ?_) (fun hq => ?_) | refine branch_n (fun hq => ?_) (fun hq => ?_) | refine branch_i (fun hq => ?_) (fun hq => ?_)) <;> (try (exfalso; omega)) <;> (conv => whnf))))
          · have e1 : (tasksT l s s'.A i ++ rowT l s s'.A i (m + 1)).map encT = (tasksT l s s'.A i ++ rowT l s s'.A i m).map encT ++ [[.int .i64 x.number, .int .i64 y.id]] := by
              rw [rowT_next, if_pos hq, ← List.append_assoc, List.map_append, numF_at hx, idF_at hy]; rfl
            exact ⟨m + 1, by omega, by rw [e1]; exact (le_mk (by repeat' (first | exact trivial | rfl | apply And.intro)) (by repeat' (first | exact trivial | rfl | apply And.intro)) rfl), by omega⟩
          · have e1 : rowT l s s'.A i (m + 1) = rowT l s s'.A i m := by rw [rowT_next, if_neg (by simp [hq]), List.append_nil]
            exact ⟨m + 1, by omega, by rw [e1]; exact (le_mk (by repeat' (first | exact trivial | rfl | apply And.intro)) (by repeat' (first | exact trivial | rfl | apply And.intro)) rfl), by omega⟩
        · (conv => whnf); (repeat' (first | (refine arith_i ⟨by omega, by omega⟩ ?_; conv => whnf) | (refine arith_u ⟨by omega, by omega⟩ ?_; conv => whnf) | (refine arith_8 ⟨by omega, by omega⟩ ?_; conv => whnf) | (refine need_i (by first | omega | (simp only [List.length_cons, List.length_nil]; omega) | (simp only [List.length_append, List.length_cons, List.length_nil, List.length_map, List.length_replicate, List.length_modify]; omega)) ?_; conv => whnf) | ((with_reducible first | refine branch_tt ?_ | refine branch_ff ?_); conv => whnf) | (with_reducible refine branch_not ?_) | ((with_reducible first | refine slc_e ?_ | refine callS_a ?_ | refine bld_a ?_ | refine own_e ?_ | refine mkmap_b ?_); conv => whnf) | (refine draw_i 15 plGL25i_0 (by decide +kernel) ?_; (conv => whnf); fail_if_success (guard_target =~ False)) | (refine draw_i 15 plGL25i_1 (by decide +kernel) ?_; (conv => whnf); fail_if_success (guard_target =~ False)) | ((with_reducible refine And.intro ?_ ?_) <;> (conv => whnf)) | (with_reducible exact trivial) | ((with_reducible first | refine branch_d (fun hq => ?_) (fun hq => ?_) | refine branch_e (fun hq => ?_) (fun hq => ?_) | refine branch_n (fun hq => ?_) (fun hq => ?_) | refine branch_i (fun hq => ?_) (fun hq => ?_)) <;> (try (exfalso; omega)) <;> (conv => whnf))))
          obtain rfl : m = l.length := by omega
          exact ⟨i + 1, by omega, by rw [tasksT_next]; exact (le_mk (by repeat' (first | exact trivial | rfl | apply And.intro)) (by repeat' (first | exact trivial | rfl | apply And.intro)) rfl), by omega⟩
      · (conv => whnf); (repeat' (first | (refine arith_i ⟨by omega, by omega⟩ ?_; conv => whnf) | (refine arith_u ⟨by omega, by omega⟩ ?_; conv => whnf) | (refine arith_8 ⟨by omega, by omega⟩ ?_; conv => whnf) | (refine need_i (by first | omega | (simp only [List.length_cons, List.length_nil]; omega) | (simp only [List.length_append, List.length_cons, List.length_nil, List.length_map, List.length_replicate, List.length_modify]; omega)) ?_; conv => whnf) | ((with_reducible first | refine branch_tt ?_ | refine branch_ff ?_); conv => whnf) | (with_reducible refine branch_not ?_) | ((with_reducible first | refine slc_e ?_ | refine callS_a ?_ | refine bld_a ?_ | refine own_e ?_ | refine mkmap_b ?_); conv => whnf) | (refine draw_i 15 plGL25i_0 (by decide +kernel) ?_; (conv => whnf); fail_if_success (guard_target =~ False)) | (refine draw_i 15 plGL25i_1 (by decide +kernel) ?_; (conv => whnf); fail_if_success (guard_target =~ False)) | ((with_reducible refine And.intro ?_ ?_) <;> (conv => whnf)) | (with_reducible exact trivial) | ((with_reducible first | refine branch_d (fun hq => ?_) (fun hq => ?_) | refine branch_e (fun hq => ?_) (fun hq => ?_) | refine branch_n (fun hq => ?_) (fun hq => ?_) | refine branch_i (fun hq => ?_) (fun hq => ?_)) <;> (try (exfalso; omega)) <;> (conv => whnf))))
        obtain rfl : i = s.length := by omega
        exact ret_t (rs := [.lst 2 ((tasksT l s s'.A s.length).map encT), .int .i64 0]) ⟨.inl rc_o, (rc_p rfl).g, trivial⟩ (.inr (.inr ⟨a, s', hk, e.trans h1, by rw [Int.toNat_natCast]; exact hU, rfl⟩))
end Go.Proofs.Ytpmoflggmdfmnaa
end

/- Layer 25: Witness of the reference. -/
section
namespace Go.Proofs.Ytpmoflggmdfmnaa
set_option linter.unusedVariables false
set_option linter.unusedSimpArgs false
set_option linter.unnecessarySimpa false
set_option linter.unusedSectionVars false
set_option maxRecDepth 10000
open Go.RowKit
def plGL25j_0 : Plan := (.take 0 (.take 1 (.take 3 (.take 4 (.alt 2 (.take 6 (.alt 5 (.take 7 .done) .stop)) (.alt 5 (.alt 2 (.take 6 (.take 7 .done)) .stop) .stop))))))
def plGL25j_1 : Plan := (.take 0 (.take 1 (.take 2 (.take 3 (.take 4 (.take 5 (.take 6 (.take 7 (.take 8 (.take 9 (.take 10 (.take 11 (.take 12 (.take 13 (.take 14 (.take 15 (.take 16 (.take 17 (.take 18 (.take 19 (.take 20 (.take 21 (.take 22 (.take 23 (.take 24 (.take 25 (.take 26 (.take 27 (.take 28 (.take 29 (.take 30 (.take 31 (.take 32 (.alt 33 (.take 34 .done) .stop))))))))))))))))))))))))))))))))))
def plGL25j_2 : Plan := (.take 0 (.take 1 (.take 2 (.alt 3 (.take 4 (.take 5 (.take 6 (.take 7 (.alt 8 (.take 9 (.take 10 (.take 11 (.take 12 (.take 13 (.take 14 (.take 16 (.take 19 (.alt 15 (.take 17 (.alt 18 (.take 20 (.alt 21 (.take 22 (.take 23 (.take 24 (.take 25 (.take 26 (.take 27 (.take 29 (.take 30 (.take 31 (.alt 28 (.alt 32 (.alt 33 (.take 34 .done) .stop) .stop) (.alt 32 (.alt 28 (.alt 33 (.take 34 .done) .stop) .stop) .stop))))))))))) .stop)) .stop)) .stop))))))))) .stop))))) .stop))))
def plGL25j_4 : Plan := (.take 0 (.take 1 (.take 2 (.takeQ 3 (.take 4 (.take 5 (.take 6 (.take 7 (.takeQ 8 (.take 9 (.take 10 (.take 11 (.take 12 (.take 13 (.take 14 (.take 15 (.take 16 (.take 17 (.take 19 (.takeQ 18 (.take 20 (.takeQ 21 (.take 22 (.take 23 (.take 24 (.take 25 (.take 26 (.take 27 (.take 28 (.take 29 (.take 30 (.take 31 (.take 32 (.alt 33 (.take 34 .done) .stop))))))))))))))))))))))))))))))))))
def witB (l : List Mrk) (s : List Scr) (k : Int) : Bool := okK k && (witP l s k.toNat).1.isSome
theorem wit_far {l : List Mrk} {s : List Scr} {q : Nat} (h60 : s.length ≤ 60) : (fillF (elF l s) (limF (capF l) 60) s.length l.length q (List.range s.length) flw0).1.isSome = (witP l s q).1.isSome := by
  have e : (fillF (elF l s) (limF (capF l) 60) s.length l.length q (List.range s.length) flw0).1 = none ↔ (witP l s q).1 = none := by
    unfold witP
    rw [fill_iff, fill_iff]
    exact ⟨fun h => h.cap fun m _ => by simp only [limF]; omega, fun h => h.cap fun m _ => by simp only [limF]; omega⟩
  rw [Bool.eq_iff_iff, ← Bool.not_eq_false, ← Bool.not_eq_false, ← Bool.not_eq_true, ← Bool.not_eq_true]
  simp only [Option.isSome_iff_ne_none]
  exact not_congr (not_congr (not_congr e))
def cnt2 (n K : Nat) (fi fs : Nat → Bool) : Nat := sumN n (fun i => (!fi i).toNat) + sumN K fun m => (!fs m).toNat
theorem cnt_i {n K m : Nat} {fi fs : Nat → Bool} (hm : m < n) (h : fi m = false) : cnt2 n K (setV fi m) fs + 1 = cnt2 n K fi fs := by
  have := unv_mark (K := n) (s := ⟨fun _ _ => false, fun _ => 0, fi⟩) (A := fun _ _ => false) (ld := fun _ => 0) hm h
  unfold unv at this
  unfold cnt2; simp only at this; omega
theorem cnt_s {n K m : Nat} {fi fs : Nat → Bool} (hm : m < K) (h : fs m = false) : cnt2 n K fi (setV fs m) + 1 = cnt2 n K fi fs := by
  have := unv_mark (K := K) (s := ⟨fun _ _ => false, fun _ => 0, fs⟩) (A := fun _ _ => false) (ld := fun _ => 0) hm h
  unfold unv at this
  unfold cnt2; simp only at this; omega
theorem idx_bs {K m : Nat} {f : Nat → Bool} {k : Int} {P : List AV → Prop} (hk : k = m) (hm : m < K) (h : P [.bool true]) : idx ((bsL K f).modify k.toNat (·.set 0 (.bool true))) k P := by
  rw [bs_set hk]
  refine idx_f hk hm ?_
  simp only [setV, if_true]; exact h
theorem loop_i4 {tt : Nat} {α β γ δ : Type} {s : St} (I : α → β → γ → δ → Prop) (st : α → β → γ → δ → St) (μ : α → β → γ → δ → Nat) {body : (Ex → St → Prop) → St → Prop} {Q : Ex → St → Prop} (a0 : α) (b0 : β) (c0 : γ) (d0 : δ) (h0 : I a0 b0 c0 d0) (hle : Le tt s (st a0 b0 c0 d0))
    (h : ∀ a b c d, I a b c d → body (fun e s' => match e with | .norm => ∃ a' b' c' d', I a' b' c' d' ∧ Le tt s' (st a' b' c' d') ∧ μ a' b' c' d' < μ a b c d | .exit i => Q (.exit i) s' | .ret => Q .ret s') (st a b c d)) : aloop tt body Q s :=
  loop_i (fun x : α × β × γ × δ => I x.1 x.2.1 x.2.2.1 x.2.2.2) (fun x => st x.1 x.2.1 x.2.2.1 x.2.2.2) (fun x => μ x.1 x.2.1 x.2.2.1 x.2.2.2) (a0, b0, c0, d0) h0 hle fun x hx => by
    refine Eq.mp (congrArg (fun K => body K (st x.1 x.2.1 x.2.2.1 x.2.2.2)) (funext fun e => funext fun s' => ?_)) (h x.1 x.2.1 x.2.2.1 x.2.2.2 hx)
    cases e <;> first | rfl | simp only [Prod.exists]
theorem snocJ {xs : List Int} {x : Int} : xs.map encI ++ [[AV.int .i64 x]] = (xs ++ [x]).map encI := by simp [encI]
set_option maxHeartbeats 8000000 in
theorem rWitness_ok (l : List Mrk) (s : List Scr) (k : Int) (hl : MksOk l) (hs : ScsOk s) : Good Try.prog TT false 20 [mrksV l, scrsV s, .int .i64 k] (fun r => ∃ ws, r = .tup [ints ws, .bool (witB l s k)]) := by
  have LL : (l.map encM).length = l.length := List.length_map ..
  have LS : (s.map encR).length = s.length := List.length_map ..
  have h16 := hl.len
  have h60 := hs.len
  have e0 : ((l.map encM).length : Int).toNat = l.length := by rw [LL]; simp
  have e1 : ((s.map encR).length : Int).toNat = s.length := by rw [LS]; simp
  cases hk : okK k with
  | false =>
    refine good_of mixed tabOk Try.func20 rfl rfl Try.ntmps20 Try.results20 rfl rfl ?_
    (conv => whnf); (repeat' (first | (refine arith_i ⟨by omega, by omega⟩ ?_; conv => whnf) | (refine arith_u ⟨by omega, by omega⟩ ?_; conv => whnf) | (refine arith_8 ⟨by omega, by omega⟩ ?_; conv => whnf) | (refine need_i (by first | omega | (simp only [List.length_cons, List.length_nil]; omega) | (simp only [List.length_append, List.length_cons, List.length_nil, List.length_map, List.length_replicate, List.length_modify]; omega)) ?_; conv => whnf) | ((with_reducible first | refine branch_tt ?_ | refine branch_ff ?_); conv => whnf) | (with_reducible refine branch_not ?_) | ((refine call_e ((rRight_ok l s k hl hs).mono fun r h => h.trans (bool_eq hk)) ?_); conv => whnf) | ((with_reducible first | refine slc_e ?_ | refine callS_a ?_ | refine bld_a ?_ | refine own_e ?_ | refine mkmap_b ?_); conv => whnf) | (refine draw_i 8 plGL25j_0 (by decide +kernel) ?_; (conv => whnf); fail_if_success (guard_target =~ False)) | (refine draw_i 35 plGL25j_1 (by decide +kernel) ?_; (conv => whnf); fail_if_success (guard_target =~ False)) | (refine draw_i 35 plGL25j_2 (by decide +kernel) ?_; (conv => whnf); fail_if_success (guard_target =~ False)) | ((with_reducible refine And.intro ?_ ?_) <;> (conv => whnf)) | (with_reducible exact trivial) | ((with_reducible first | refine branch_d (fun hq => ?_) (fun hq => ?_) | refine branch_e (fun hq => ?_) (fun hq => ?_) | refine branch_n (fun hq => ?_) (fun hq => ?_) | refine branch_i (fun hq => ?_) (fun hq => ?_)) <;> (try (exfalso; omega)) <;> (conv => whnf))))
    exact ret_t (rs := [ints [], .bool false]) ⟨.inl rc_n, (rc_p rfl).g, trivial⟩ ⟨[], by rw [witB, hk]; rfl⟩
  | true =>
    obtain ⟨q, rfl, hq1, hq2⟩ := okK_in hk
    have hNew := start_ok l s 60 hl hs (by omega)
    have hlim : ∀ m, m < l.length → limF (capF l) 60 m ≤ 1000 := fun m hm => by unfold limF; omega
    have hFill := rFill_ok l s (limF (capF l) 60) hl hs hlim q hq2 flw0 wf_0
    have hfar := wit_far (l := l) (q := q) h60
    have hin : ∀ i s', fillF (elF l s) (limF (capF l) 60) s.length l.length q (List.range s.length) flw0 = (some i, s') → i < s.length := fun i s' h => (fill_lost (k := 0) rfl upto_0 h).1
    generalize hp : fillF (elF l s) (limF (capF l) 60) s.length l.length q (List.range s.length) flw0 = p at hFill hfar hin
    obtain ⟨o, s'⟩ := p
    refine good_of mixed tabOk Try.func20 rfl rfl Try.ntmps20 Try.results20 rfl rfl ?_
    (conv => whnf); (repeat' (first | (refine arith_i ⟨by omega, by omega⟩ ?_; conv => whnf) | (refine arith_u ⟨by omega, by omega⟩ ?_; conv => whnf) | (refine arith_8 ⟨by omega, by omega⟩ ?_; conv => whnf) | (refine need_i (by first | omega | (simp only [List.length_cons, List.length_nil]; omega) | (simp only [List.length_append, List.length_cons, List.length_nil, List.length_map, List.length_replicate, List.length_modify]; omega)) ?_; conv => whnf) | ((with_reducible first | refine branch_tt ?_ | refine branch_ff ?_); conv => whnf) | (with_reducible refine branch_not ?_) | ((refine call_e ((rRight_ok l s q hl hs).mono fun r h => h.trans (bool_eq hk)) ?_); conv => whnf) | (((refine acall_m ?_; refine rcall_e [] [] [(12, 950)] [(901, 911), (902, 912)] hNew rfl rfl rfl rfl trivial rfl ?_)); conv => whnf) | (((refine rcall_i [(1000, 950)] [(1101, 911), (1102, 912)] [] [] _ Le.refl hFill rfl rfl rfl rfl ⟨⟨_, rfl, rfl, rfl⟩, trivial⟩ ?_; rintro r ov bx' ⟨rfl, rfl, hr⟩; rcases hr with ⟨h1, rfl⟩ | ⟨i0, h1, rfl⟩ <;> refine ⟨rfl, ?_⟩ <;> (conv => whnf))); conv => whnf) | ((refine need_i (by omega) ?_); conv => whnf) | ((refine idx_r (by omega) (by omega) ?_); conv => whnf) | ((with_reducible first | refine slc_e ?_ | refine callS_a ?_ | refine bld_a ?_ | refine own_e ?_ | refine mkmap_b ?_); conv => whnf) | (refine draw_i 8 plGL25j_0 (by decide +kernel) ?_; (conv => whnf); fail_if_success (guard_target =~ False)) | (refine draw_i 35 plGL25j_2 (by decide +kernel) ?_; (conv => whnf); fail_if_success (guard_target =~ False)) | (refine draw_i 35 plGL25j_1 (by decide +kernel) ?_; (conv => whnf); fail_if_success (guard_target =~ False)) | ((with_reducible refine And.intro ?_ ?_) <;> (conv => whnf)) | (with_reducible exact trivial) | ((with_reducible first | refine branch_d (fun hq => ?_) (fun hq => ?_) | refine branch_e (fun hq => ?_) (fun hq => ?_) | refine branch_n (fun hq => ?_) (fun hq => ?_) | refine branch_i (fun hq => ?_) (fun hq => ?_)) <;> (try (exfalso; omega)) <;> (conv => whnf))))
    · have e : witB l s q = false := by rw [witB, hk, Int.toNat_natCast, ← hfar, h1]; rfl
      rw [e]
      exact ret_t (rs := [ints [], .bool false]) ⟨.inl rc_n, (rc_p rfl).g, trivial⟩ ⟨[], rfl⟩
    all_goals
      have hi0 : i0 < s.length := hin i0 s' (Prod.ext h1 rfl)
      have e : witB l s q = true := by rw [witB, hk, Int.toNat_natCast, ← hfar, h1]; rfl
      rw [e]
      refine idx_r (by omega) (by rw [e1]; omega) ?_
      have LM : (rowsC s.length l.length s'.A).length = l.length := rowsC_len
      (conv => whnf); (repeat' (first | (refine arith_i ⟨by omega, by omega⟩ ?_; conv => whnf) | (refine arith_u ⟨by omega, by omega⟩ ?_; conv => whnf) | (refine arith_8 ⟨by omega, by omega⟩ ?_; conv => whnf) | (refine need_i (by first | omega | (simp only [List.length_cons, List.length_nil]; omega) | (simp only [List.length_append, List.length_cons, List.length_nil, List.length_map, List.length_replicate, List.length_modify]; omega)) ?_; conv => whnf) | ((with_reducible first | refine branch_tt ?_ | refine branch_ff ?_); conv => whnf) | (with_reducible refine branch_not ?_) | ((with_reducible first | refine slc_e ?_ | refine callS_a ?_ | refine bld_a ?_ | refine own_e ?_ | refine mkmap_b ?_); conv => whnf) | (refine draw_i 8 plGL25j_0 (by decide +kernel) ?_; (conv => whnf); fail_if_success (guard_target =~ False)) | (refine draw_i 35 plGL25j_2 (by decide +kernel) ?_; (conv => whnf); fail_if_success (guard_target =~ False)) | (refine draw_i 35 plGL25j_1 (by decide +kernel) ?_; (conv => whnf); fail_if_success (guard_target =~ False)) | ((with_reducible refine And.intro ?_ ?_) <;> (conv => whnf)) | (with_reducible exact trivial) | ((with_reducible first | refine branch_d (fun hq => ?_) (fun hq => ?_) | refine branch_e (fun hq => ?_) (fun hq => ?_) | refine branch_n (fun hq => ?_) (fun hq => ?_) | refine branch_i (fun hq => ?_) (fun hq => ?_)) <;> (try (exfalso; omega)) <;> (conv => whnf))))
      refine loop_i3 (fun (fi fs : Nat → Bool) (more : Bool) => True) (fun fi fs more => mkSt [(0, mrksV l), (1, scrsV s), (8, .ptr 950 0), (11, .own 35 4 1 (bsL s.length fi)), (12, .own 38 4 1 (bsL l.length fs)), (13, .bool more)] [(950, rflowG 911 912 l s (limF (capF l) 60) s')] false) (fun fi fs more => 2 * cnt2 s.length l.length fi fs + more.toNat) (setV (fun _ => false) i0) (fun _ => false) true trivial (le_mk ⟨rfl, rfl, rfl, congrArg (AV.own 35 4 1) (by rw [e1, bs_false]; exact bs_set rfl), congrArg (AV.own 38 4 1) (by rw [e0, bs_false]), rfl, trivial⟩ ⟨rfl, trivial⟩ rfl) ?_
      rintro fi0 fs0 more0 -
      have L1 : ∀ f, (bsL s.length f).length = s.length := fun f => bsL_len
      have L2 : ∀ f, (bsL l.length f).length = l.length := fun f => bsL_len
      cases more0 with
      | false =>
        (conv => whnf); (repeat' (first | (refine arith_i ⟨by omega, by omega⟩ ?_; conv => whnf) | (refine arith_u ⟨by omega, by omega⟩ ?_; conv => whnf) | (refine arith_8 ⟨by omega, by omega⟩ ?_; conv => whnf) | (refine need_i (by first | omega | (simp only [List.length_cons, List.length_nil]; omega) | (simp only [List.length_append, List.length_cons, List.length_nil, List.length_map, List.length_replicate, List.length_modify]; omega)) ?_; conv => whnf) | ((with_reducible first | refine branch_tt ?_ | refine branch_ff ?_); conv => whnf) | (with_reducible refine branch_not ?_) | ((with_reducible first | refine slc_e ?_ | refine callS_a ?_ | refine bld_a ?_ | refine own_e ?_ | refine mkmap_b ?_); conv => whnf) | (refine draw_i 8 plGL25j_0 (by decide +kernel) ?_; (conv => whnf); fail_if_success (guard_target =~ False)) | (refine draw_i 35 plGL25j_1 (by decide +kernel) ?_; (conv => whnf); fail_if_success (guard_target =~ False)) | (refine draw_i 35 plGL25j_2 (by decide +kernel) ?_; (conv => whnf); fail_if_success (guard_target =~ False)) | ((with_reducible refine And.intro ?_ ?_) <;> (conv => whnf)) | (with_reducible exact trivial) | ((with_reducible first | refine branch_d (fun hq => ?_) (fun hq => ?_) | refine branch_e (fun hq => ?_) (fun hq => ?_) | refine branch_n (fun hq => ?_) (fun hq => ?_) | refine branch_i (fun hq => ?_) (fun hq => ?_)) <;> (try (exfalso; omega)) <;> (conv => whnf))))
        refine loop_i2 (fun (i : Nat) (ws : List Int) => i ≤ s.length ∧ ws.length ≤ i) (fun i ws => mkSt [(1, scrsV s), (11, .own 35 4 1 (bsL s.length fi0)), (16, .own 920 3 1 (ws.map encI)), (17, .int .i64 i)] [] false) (fun i _ => s.length - i) 0 [] ⟨Nat.zero_le _, by simp⟩ (Le.trans (le_adopt 16 920 3 1 rfl) (le_mk (by repeat' (first | exact trivial | rfl | apply And.intro)) (by repeat' (first | exact trivial | rfl | apply And.intro)) rfl)) ?_
        rintro i ws ⟨hi, hws⟩
        have LW : (ws.map encI).length = ws.length := List.length_map ..
        (conv => whnf); (repeat' (first | (refine arith_i ⟨by omega, by omega⟩ ?_; conv => whnf) | (refine arith_u ⟨by omega, by omega⟩ ?_; conv => whnf) | (refine arith_8 ⟨by omega, by omega⟩ ?_; conv => whnf) | (refine need_i (by first | omega | (simp only [List.length_cons, List.length_nil]; omega) | (simp only [List.length_append, List.length_cons, List.length_nil, List.length_map, List.length_replicate, List.length_modify]; omega)) ?_; conv => whnf) | ((with_reducible first | refine branch_tt ?_ | refine branch_ff ?_); conv => whnf) | (with_reducible refine branch_not ?_) | ((refine idx_f (m := i) rfl (by omega) ?_); conv => whnf) | ((with_reducible first | refine slc_e ?_ | refine callS_a ?_ | refine bld_a ?_ | refine own_e ?_ | refine mkmap_b ?_); conv => whnf) | (refine draw_i 8 plGL25j_0 (by decide +kernel) ?_; (conv => whnf); fail_if_success (guard_target =~ False)) | (refine draw_i 35 plGL25j_1 (by decide +kernel) ?_; (conv => whnf); fail_if_success (guard_target =~ False)) | (refine draw_i 35 plGL25j_2 (by decide +kernel) ?_; (conv => whnf); fail_if_success (guard_target =~ False)) | ((with_reducible refine And.intro ?_ ?_) <;> (conv => whnf)) | (with_reducible exact trivial) | ((with_reducible first | refine branch_d (fun hq => ?_) (fun hq => ?_) | refine branch_e (fun hq => ?_) (fun hq => ?_) | refine branch_n (fun hq => ?_) (fun hq => ?_) | refine branch_i (fun hq => ?_) (fun hq => ?_)) <;> (try (exfalso; omega)) <;> (conv => whnf))))
        · exact ⟨i + 1, ws ++ [(i : Int)], ⟨by omega, by simp; omega⟩, by rw [← snocJ]; exact (le_mk (by repeat' (first | exact trivial | rfl | apply And.intro)) (by repeat' (first | exact trivial | rfl | apply And.intro)) rfl), by omega⟩
        · exact ⟨i + 1, ws, ⟨by omega, by omega⟩, (le_mk (by repeat' (first | exact trivial | rfl | apply And.intro)) (by repeat' (first | exact trivial | rfl | apply And.intro)) rfl), by omega⟩
        · exact ret_t (rs := [ints ws, .bool true]) ⟨.inl rc_o, (rc_p rfl).g, trivial⟩ ⟨ws, rfl⟩
      | true =>
        (conv => whnf); (repeat' (first | (refine arith_i ⟨by omega, by omega⟩ ?_; conv => whnf) | (refine arith_u ⟨by omega, by omega⟩ ?_; conv => whnf) | (refine arith_8 ⟨by omega, by omega⟩ ?_; conv => whnf) | (refine need_i (by first | omega | (simp only [List.length_cons, List.length_nil]; omega) | (simp only [List.length_append, List.length_cons, List.length_nil, List.length_map, List.length_replicate, List.length_modify]; omega)) ?_; conv => whnf) | ((with_reducible first | refine branch_tt ?_ | refine branch_ff ?_); conv => whnf) | (with_reducible refine branch_not ?_) | ((with_reducible first | refine slc_e ?_ | refine callS_a ?_ | refine bld_a ?_ | refine own_e ?_ | refine mkmap_b ?_); conv => whnf) | (refine draw_i 8 plGL25j_0 (by decide +kernel) ?_; (conv => whnf); fail_if_success (guard_target =~ False)) | (refine draw_i 35 plGL25j_1 (by decide +kernel) ?_; (conv => whnf); fail_if_success (guard_target =~ False)) | (refine draw_i 35 plGL25j_2 (by decide +kernel) ?_; (conv => whnf); fail_if_success (guard_target =~ False)) | ((with_reducible refine And.intro ?_ ?_) <;> (conv => whnf)) | (with_reducible exact trivial) | ((with_reducible first | refine branch_d (fun hq => ?_) (fun hq => ?_) | refine branch_e (fun hq => ?_) (fun hq => ?_) | refine branch_n (fun hq => ?_) (fun hq => ?_) | refine branch_i (fun hq => ?_) (fun hq => ?_)) <;> (try (exfalso; omega)) <;> (conv => whnf))))
        refine loop_i4 (fun (i : Nat) (fi fs : Nat → Bool) (more : Bool) => i ≤ s.length ∧ cnt2 s.length l.length fi fs ≤ cnt2 s.length l.length fi0 fs0 ∧ (more = true → cnt2 s.length l.length fi fs < cnt2 s.length l.length fi0 fs0)) (fun i fi fs more => mkSt [(0, mrksV l), (1, scrsV s), (8, .ptr 950 0), (11, .own 35 4 1 (bsL s.length fi)), (12, .own 38 4 1 (bsL l.length fs)), (13, .bool more), (14, .int .i64 i)] [(950, rflowG 911 912 l s (limF (capF l) 60) s')] false) (fun i _ _ _ => s.length - i) 0 fi0 fs0 false ⟨Nat.zero_le _, Nat.le_refl _, nofun⟩ (le_mk (by repeat' (first | exact trivial | rfl | apply And.intro)) (by repeat' (first | exact trivial | rfl | apply And.intro)) rfl) ?_
        rintro i fi fs more ⟨hi, hc1, hc2⟩
        rcases Nat.lt_or_ge i s.length with hil | hil
        · obtain ⟨x, hx⟩ : ∃ x, s[i]? = some x := ⟨_, List.getElem?_eq_getElem hil⟩
          (conv => whnf); (repeat' (first | (refine arith_i ⟨by omega, by omega⟩ ?_; conv => whnf) | (refine arith_u ⟨by omega, by omega⟩ ?_; conv => whnf) | (refine arith_8 ⟨by omega, by omega⟩ ?_; conv => whnf) | (refine need_i (by first | omega | (simp only [List.length_cons, List.length_nil]; omega) | (simp only [List.length_append, List.length_cons, List.length_nil, List.length_map, List.length_replicate, List.length_modify]; omega)) ?_; conv => whnf) | ((with_reducible first | refine branch_tt ?_ | refine branch_ff ?_); conv => whnf) | (with_reducible refine branch_not ?_) | ((with_reducible first | refine slc_e ?_ | refine callS_a ?_ | refine bld_a ?_ | refine own_e ?_ | refine mkmap_b ?_); conv => whnf) | (refine draw_i 8 plGL25j_0 (by decide +kernel) ?_; (conv => whnf); fail_if_success (guard_target =~ False)) | (refine draw_i 35 plGL25j_1 (by decide +kernel) ?_; (conv => whnf); fail_if_success (guard_target =~ False)) | (refine draw_i 35 plGL25j_2 (by decide +kernel) ?_; (conv => whnf); fail_if_success (guard_target =~ False)) | ((with_reducible refine And.intro ?_ ?_) <;> (conv => whnf)) | (with_reducible exact trivial) | ((with_reducible first | refine branch_d (fun hq => ?_) (fun hq => ?_) | refine branch_e (fun hq => ?_) (fun hq => ?_) | refine branch_n (fun hq => ?_) (fun hq => ?_) | refine branch_i (fun hq => ?_) (fun hq => ?_)) <;> (try (exfalso; omega)) <;> (conv => whnf))))
          refine loop_i4 (fun (m : Nat) (fi fs : Nat → Bool) (more : Bool) => m ≤ l.length ∧ cnt2 s.length l.length fi fs ≤ cnt2 s.length l.length fi0 fs0 ∧ (more = true → cnt2 s.length l.length fi fs < cnt2 s.length l.length fi0 fs0)) (fun m fi fs more => mkSt [(0, mrksV l), (1, scrsV s), (8, .ptr 950 0), (11, .own 35 4 1 (bsL s.length fi)), (12, .own 38 4 1 (bsL l.length fs)), (13, .bool more), (14, .int .i64 i), (15, .int .i64 m)] [(950, rflowG 911 912 l s (limF (capF l) 60) s')] false) (fun m _ _ _ => l.length - m) 0 fi fs more ⟨Nat.zero_le _, hc1, hc2⟩ (le_mk (by repeat' (first | exact trivial | rfl | apply And.intro)) (by repeat' (first | exact trivial | rfl | apply And.intro)) rfl) ?_
          rintro m fi fs more ⟨hm, hc1, hc2⟩
          rcases Nat.lt_or_ge m l.length with hml | hml
          · obtain ⟨y, hy⟩ : ∃ y, l[m]? = some y := ⟨_, List.getElem?_eq_getElem hml⟩
            have hfit := fits_ok y x (hl.all m y hy).len
            (conv => whnf); (repeat' (first | (refine arith_i ⟨by omega, by omega⟩ ?_; conv => whnf) | (refine arith_u ⟨by omega, by omega⟩ ?_; conv => whnf) | (refine arith_8 ⟨by omega, by omega⟩ ?_; conv => whnf) | (refine need_i (by first | omega | (simp only [List.length_cons, List.length_nil]; omega) | (simp only [List.length_append, List.length_cons, List.length_nil, List.length_map, List.length_replicate, List.length_modify]; omega)) ?_; conv => whnf) | ((with_reducible first | refine branch_tt ?_ | refine branch_ff ?_); conv => whnf) | (with_reducible refine branch_not ?_) | ((refine idx_f (m := i) rfl (by omega) ?_); conv => whnf) | ((refine idx_f (m := m) rfl (by omega) ?_); conv => whnf) | ((refine idx_bs (m := m) rfl (by omega) ?_); conv => whnf) | ((refine ridx_f (m := m) rfl (by omega) ?_); conv => whnf) | ((refine idx_cs hy ?_); conv => whnf) | ((refine idx_cs hx ?_); conv => whnf) | ((refine call_e hfit ?_); conv => whnf) | ((with_reducible first | refine slc_e ?_ | refine callS_a ?_ | refine bld_a ?_ | refine own_e ?_ | refine mkmap_b ?_); conv => whnf) | (refine draw_i 35 plGL25j_4 (by decide +kernel) ?_; (conv => whnf); fail_if_success (guard_target =~ False)) | ((with_reducible refine And.intro ?_ ?_) <;> (conv => whnf)) | (with_reducible exact trivial) | ((with_reducible first | refine branch_d (fun hq => ?_) (fun hq => ?_) | refine branch_e (fun hq => ?_) (fun hq => ?_) | refine branch_n (fun hq => ?_) (fun hq => ?_) | refine branch_i (fun hq => ?_) (fun hq => ?_)) <;> (try (exfalso; omega)) <;> (conv => whnf))))
            all_goals first
              | (exfalso
                 have g1 : fi i = true := by assumption
                 have g2 : fi i = false := by assumption
                 rw [g1] at g2; cases g2)
              | exact ⟨m + 1, fi, fs, more, ⟨by omega, hc1, hc2⟩, le_mk ⟨rfl, rfl, rfl, rfl, rfl, rfl, rfl, rfl, trivial⟩ ⟨rfl, trivial⟩ rfl, by omega⟩
              | (have hf : fs m = false := by assumption
                 have hcc := cnt_s (n := s.length) (fi := fi) hml hf
                 exact ⟨m + 1, fi, setV fs m, true, ⟨by omega, by omega, fun _ => by omega⟩, le_mk ⟨rfl, rfl, rfl, rfl, congrArg (AV.own 38 4 1) (bs_set rfl), rfl, rfl, rfl, trivial⟩ ⟨rfl, trivial⟩ rfl, by omega⟩)
              | (have hf : fi i = false := by assumption
                 have hcc := cnt_i (K := l.length) (fs := fs) hil hf
                 exact ⟨m + 1, setV fi i, fs, true, ⟨by omega, by omega, fun _ => by omega⟩, le_mk ⟨rfl, rfl, rfl, congrArg (AV.own 35 4 1) (bs_set rfl), rfl, rfl, rfl, rfl, trivial⟩ ⟨rfl, trivial⟩ rfl, by omega⟩)
          · (conv => whnf); (repeat' (first | (refine arith_i ⟨by omega, by omega⟩ ?_; conv => whnf) | (refine arith_u ⟨by omega, by omega⟩ ?_; conv => whnf) | (refine arith_8 ⟨by omega, by omega⟩ ?_; conv => whnf) | (refine need_i (by first | omega | (simp only [List.length_cons, List.length_nil]; omega) | (simp only [List.length_append, List.length_cons, List.length_nil, List.length_map, List.length_replicate, List.length_modify]; omega)) ?_; conv => whnf) | ((with_reducible first | refine branch_tt ?_ | refine branch_ff ?_); conv => whnf) | (with_reducible refine branch_not ?_) | ((with_reducible first | refine slc_e ?_ | refine callS_a ?_ | refine bld_a ?_ | refine own_e ?_ | refine mkmap_b ?_); conv => whnf) | (refine draw_i 8 plGL25j_0 (by decide +kernel) ?_; (conv => whnf); fail_if_success (guard_target =~ False)) | (refine draw_i 35 plGL25j_1 (by decide +kernel) ?_; (conv => whnf); fail_if_success (guard_target =~ False)) | (refine draw_i 35 plGL25j_2 (by decide +kernel) ?_; (conv => whnf); fail_if_success (guard_target =~ False)) | ((with_reducible refine And.intro ?_ ?_) <;> (conv => whnf)) | (with_reducible exact trivial) | ((with_reducible first | refine branch_d (fun hq => ?_) (fun hq => ?_) | refine branch_e (fun hq => ?_) (fun hq => ?_) | refine branch_n (fun hq => ?_) (fun hq => ?_) | refine branch_i (fun hq => ?_) (fun hq => ?_)) <;> (try (exfalso; omega)) <;> (conv => whnf))))
            exact ⟨i + 1, fi, fs, more, ⟨by omega, hc1, hc2⟩, (le_mk (by repeat' (first | exact trivial | rfl | apply And.intro)) (by repeat' (first | exact trivial | rfl | apply And.intro)) rfl), by omega⟩
        · (conv => whnf); (repeat' (first | (refine arith_i ⟨by omega, by omega⟩ ?_; conv => whnf) | (refine arith_u ⟨by omega, by omega⟩ ?_; conv => whnf) | (refine arith_8 ⟨by omega, by omega⟩ ?_; conv => whnf) | (refine need_i (by first | omega | (simp only [List.length_cons, List.length_nil]; omega) | (simp only [List.length_append, List.length_cons, List.length_nil, List.length_map, List.length_replicate, List.length_modify]; omega)) ?_; conv => whnf) | ((with_reducible first | refine branch_tt ?_ | refine branch_ff ?_); conv => whnf) | (with_reducible refine branch_not ?_) | ((with_reducible first | refine slc_e ?_ | refine callS_a ?_ | refine bld_a ?_ | refine own_e ?_ | refine mkmap_b ?_); conv => whnf) | (refine draw_i 8 plGL25j_0 (by decide +kernel) ?_; (conv => whnf); fail_if_success (guard_target =~ False)) | (refine draw_i 35 plGL25j_1 (by decide +kernel) ?_; (conv => whnf); fail_if_success (guard_target =~ False)) | (refine draw_i 35 plGL25j_2 (by decide +kernel) ?_; (conv => whnf); fail_if_success (guard_target =~ False)) | ((with_reducible refine And.intro ?_ ?_) <;> (conv => whnf)) | (with_reducible exact trivial) | ((with_reducible first | refine branch_d (fun hq => ?_) (fun hq => ?_) | refine branch_e (fun hq => ?_) (fun hq => ?_) | refine branch_n (fun hq => ?_) (fun hq => ?_) | refine branch_i (fun hq => ?_) (fun hq => ?_)) <;> (try (exfalso; omega)) <;> (conv => whnf))))
          refine ⟨fi, fs, more, trivial, (le_mk (by repeat' (first | exact trivial | rfl | apply And.intro)) (by repeat' (first | exact trivial | rfl | apply And.intro)) rfl), ?_⟩
          cases more with
          | false => simp; omega
          | true => have := hc2 rfl; simp; omega
end Go.Proofs.Ytpmoflggmdfmnaa
end

/- Layer 25: the markers and scripts of the examples. -/
section
namespace Go.Proofs.Ytpmoflggmdfmnaa
set_option linter.unusedVariables false
set_option linter.unusedSimpArgs false
set_option linter.unnecessarySimpa false
set_option linter.unusedSectionVars false
set_option maxRecDepth 10000
open Go.RowKit
def allM (c : Int) (i : Nat) : Mrk := ⟨1 + i, -1, 1, c, [0]⟩
def allL (c : Int) (n : Nat) : List Mrk := (List.range n).map (allM c)
def scrM (c : Int) (i : Nat) : Scr := ⟨1 + i, 0, 1 + i, c, 0, [], []⟩
def scrL (c : Int) (n : Nat) : List Scr := (List.range n).map (scrM c)
theorem snocA {t : Tg} {e : Nat} {c : Int} {k : Nat} {cs : List AV} (h : cs = encM (allM c k)) : AV.own t e 5 ((allL c k).map encM ++ [cs]) = .own t e 5 ((allL c (k + 1)).map encM) := by
  subst h
  rw [allL, allL, List.range_succ]; simp
theorem snocB {t : Tg} {e : Nat} {c : Int} {k : Nat} {cs : List AV} (h : cs = encR (scrM c k)) : AV.own t e 7 ((scrL c k).map encR ++ [cs]) = .own t e 7 ((scrL c (k + 1)).map encR) := by
  subst h
  rw [scrL, scrL, List.range_succ]; simp
theorem all_ok (n : Nat) (c : Int) (hn : n ≤ 9) : Good Try.prog TT false 51 [.int .i64 n, .int .i64 c] (· = .own 0 65 5 ((allL c n).map encM)) := by
  refine good_of mixed tabOk Try.func51 rfl rfl Try.ntmps51 Try.results51 rfl rfl ?_
  (conv => whnf); (repeat' (first | (refine arith_i ⟨by omega, by omega⟩ ?_; conv => whnf) | (refine arith_u ⟨by omega, by omega⟩ ?_; conv => whnf) | (refine arith_8 ⟨by omega, by omega⟩ ?_; conv => whnf) | (refine need_i (by first | omega | (simp only [List.length_cons, List.length_nil]; omega) | (simp only [List.length_append, List.length_cons, List.length_nil, List.length_map, List.length_replicate, List.length_modify]; omega)) ?_; conv => whnf) | ((with_reducible first | refine branch_tt ?_ | refine branch_ff ?_); conv => whnf) | (with_reducible refine branch_not ?_) | ((with_reducible first | refine slc_e ?_ | refine callS_a ?_ | refine bld_a ?_ | refine own_e ?_ | refine mkmap_b ?_); conv => whnf) | ((with_reducible first | refine branch_d (fun hq => ?_) (fun hq => ?_) | refine branch_e (fun hq => ?_) (fun hq => ?_) | refine branch_n (fun hq => ?_) (fun hq => ?_) | refine branch_i (fun hq => ?_) (fun hq => ?_)) <;> (try (exfalso; omega)) <;> (conv => whnf))))
  refine loop_i (fun i : Nat => i ≤ n) (fun i => mkSt [(0, .int .i64 n), (1, .int .i64 c), (5, .own 200 65 5 ((allL c i).map encM)), (6, .int .i64 (1 + i))] [] false) (fun i => n - i) 0 (Nat.zero_le _) (Le.trans (le_adopt 5 200 65 5 rfl) (le_mk ⟨rfl, rfl, rfl, rfl, trivial⟩ trivial rfl)) ?_
  intro i hi
  have L : ((allL c i).map encM).length = i := by simp [allL]
  rcases Nat.lt_or_ge i n with hil | hil
  · (conv => whnf); (repeat' (first | (refine arith_i ⟨by omega, by omega⟩ ?_; conv => whnf) | (refine arith_u ⟨by omega, by omega⟩ ?_; conv => whnf) | (refine arith_8 ⟨by omega, by omega⟩ ?_; conv => whnf) | (refine need_i (by first | omega | (simp only [List.length_cons, List.length_nil]; omega) | (simp only [List.length_append, List.length_cons, List.length_nil, List.length_map, List.length_replicate, List.length_modify]; omega)) ?_; conv => whnf) | ((with_reducible first | refine branch_tt ?_ | refine branch_ff ?_); conv => whnf) | (with_reducible refine branch_not ?_) | ((with_reducible first | refine slc_e ?_ | refine callS_a ?_ | refine bld_a ?_ | refine own_e ?_ | refine mkmap_b ?_); conv => whnf) | ((with_reducible first | refine branch_d (fun hq => ?_) (fun hq => ?_) | refine branch_e (fun hq => ?_) (fun hq => ?_) | refine branch_n (fun hq => ?_) (fun hq => ?_) | refine branch_i (fun hq => ?_) (fun hq => ?_)) <;> (try (exfalso; omega)) <;> (conv => whnf))))
    exact ⟨i + 1, by omega, le_mk ⟨rfl, rfl, snocA rfl, int_eq (by omega), trivial⟩ trivial rfl, by omega⟩
  · (conv => whnf); (repeat' (first | (refine arith_i ⟨by omega, by omega⟩ ?_; conv => whnf) | (refine arith_u ⟨by omega, by omega⟩ ?_; conv => whnf) | (refine arith_8 ⟨by omega, by omega⟩ ?_; conv => whnf) | (refine need_i (by first | omega | (simp only [List.length_cons, List.length_nil]; omega) | (simp only [List.length_append, List.length_cons, List.length_nil, List.length_map, List.length_replicate, List.length_modify]; omega)) ?_; conv => whnf) | ((with_reducible first | refine branch_tt ?_ | refine branch_ff ?_); conv => whnf) | (with_reducible refine branch_not ?_) | ((with_reducible first | refine slc_e ?_ | refine callS_a ?_ | refine bld_a ?_ | refine own_e ?_ | refine mkmap_b ?_); conv => whnf) | ((with_reducible first | refine branch_d (fun hq => ?_) (fun hq => ?_) | refine branch_e (fun hq => ?_) (fun hq => ?_) | refine branch_n (fun hq => ?_) (fun hq => ?_) | refine branch_i (fun hq => ?_) (fun hq => ?_)) <;> (try (exfalso; omega)) <;> (conv => whnf))))
    obtain rfl : i = n := by omega
    exact ret_o rfl
theorem scripts25_ok (n : Nat) (c : Int) (hn : n ≤ 9) : Good Try.prog TT false 52 [.int .i64 n, .int .i64 c] (· = .own 0 63 7 ((scrL c n).map encR)) := by
  refine good_of mixed tabOk Try.func52 rfl rfl Try.ntmps52 Try.results52 rfl rfl ?_
  (conv => whnf); (repeat' (first | (refine arith_i ⟨by omega, by omega⟩ ?_; conv => whnf) | (refine arith_u ⟨by omega, by omega⟩ ?_; conv => whnf) | (refine arith_8 ⟨by omega, by omega⟩ ?_; conv => whnf) | (refine need_i (by first | omega | (simp only [List.length_cons, List.length_nil]; omega) | (simp only [List.length_append, List.length_cons, List.length_nil, List.length_map, List.length_replicate, List.length_modify]; omega)) ?_; conv => whnf) | ((with_reducible first | refine branch_tt ?_ | refine branch_ff ?_); conv => whnf) | (with_reducible refine branch_not ?_) | ((with_reducible first | refine slc_e ?_ | refine callS_a ?_ | refine bld_a ?_ | refine own_e ?_ | refine mkmap_b ?_); conv => whnf) | ((with_reducible first | refine branch_d (fun hq => ?_) (fun hq => ?_) | refine branch_e (fun hq => ?_) (fun hq => ?_) | refine branch_n (fun hq => ?_) (fun hq => ?_) | refine branch_i (fun hq => ?_) (fun hq => ?_)) <;> (try (exfalso; omega)) <;> (conv => whnf))))
  refine loop_i (fun i : Nat => i ≤ n) (fun i => mkSt [(0, .int .i64 n), (1, .int .i64 c), (5, .own 200 63 7 ((scrL c i).map encR)), (6, .int .i64 (1 + i))] [] false) (fun i => n - i) 0 (Nat.zero_le _) (Le.trans (le_adopt 5 200 63 7 rfl) (le_mk ⟨rfl, rfl, rfl, rfl, trivial⟩ trivial rfl)) ?_
  intro i hi
  have L : ((scrL c i).map encR).length = i := by simp [scrL]
  rcases Nat.lt_or_ge i n with hil | hil
  · (conv => whnf); (repeat' (first | (refine arith_i ⟨by omega, by omega⟩ ?_; conv => whnf) | (refine arith_u ⟨by omega, by omega⟩ ?_; conv => whnf) | (refine arith_8 ⟨by omega, by omega⟩ ?_; conv => whnf) | (refine need_i (by first | omega | (simp only [List.length_cons, List.length_nil]; omega) | (simp only [List.length_append, List.length_cons, List.length_nil, List.length_map, List.length_replicate, List.length_modify]; omega)) ?_; conv => whnf) | ((with_reducible first | refine branch_tt ?_ | refine branch_ff ?_); conv => whnf) | (with_reducible refine branch_not ?_) | ((refine nils_i [.int .i64 (1 + i), .int .i64 0, .int .i64 (1 + i), .int .i64 c, .int .i64 0, .lst 1 [], .lst 1 []] ⟨rfl, rfl, rfl, rfl, rfl, pc_nil 1, pc_nil 1, trivial⟩ ?_); conv => whnf) | ((with_reducible first | refine slc_e ?_ | refine callS_a ?_ | refine bld_a ?_ | refine own_e ?_ | refine mkmap_b ?_); conv => whnf) | ((with_reducible first | refine branch_d (fun hq => ?_) (fun hq => ?_) | refine branch_e (fun hq => ?_) (fun hq => ?_) | refine branch_n (fun hq => ?_) (fun hq => ?_) | refine branch_i (fun hq => ?_) (fun hq => ?_)) <;> (try (exfalso; omega)) <;> (conv => whnf))))
    exact ⟨i + 1, by omega, le_mk ⟨rfl, rfl, snocB rfl, int_eq (by omega), trivial⟩ trivial rfl, by omega⟩
  · (conv => whnf); (repeat' (first | (refine arith_i ⟨by omega, by omega⟩ ?_; conv => whnf) | (refine arith_u ⟨by omega, by omega⟩ ?_; conv => whnf) | (refine arith_8 ⟨by omega, by omega⟩ ?_; conv => whnf) | (refine need_i (by first | omega | (simp only [List.length_cons, List.length_nil]; omega) | (simp only [List.length_append, List.length_cons, List.length_nil, List.length_map, List.length_replicate, List.length_modify]; omega)) ?_; conv => whnf) | ((with_reducible first | refine branch_tt ?_ | refine branch_ff ?_); conv => whnf) | (with_reducible refine branch_not ?_) | ((with_reducible first | refine slc_e ?_ | refine callS_a ?_ | refine bld_a ?_ | refine own_e ?_ | refine mkmap_b ?_); conv => whnf) | ((with_reducible first | refine branch_d (fun hq => ?_) (fun hq => ?_) | refine branch_e (fun hq => ?_) (fun hq => ?_) | refine branch_n (fun hq => ?_) (fun hq => ?_) | refine branch_i (fun hq => ?_) (fun hq => ?_)) <;> (try (exfalso; omega)) <;> (conv => whnf))))
    obtain rfl : i = n := by omega
    exact ret_o rfl
end Go.Proofs.Ytpmoflggmdfmnaa
end

/- Layer 25: Short: of the program and of the reference. -/
section
namespace Go.Proofs.Ytpmoflggmdfmnaa
set_option linter.unusedVariables false
set_option linter.unusedSimpArgs false
set_option linter.unnecessarySimpa false
set_option linter.unusedSectionVars false
set_option maxRecDepth 10000
open Go.RowKit
def plGL25t_0 : Plan := (.take 0 (.take 1 (.take 2 (.take 3 (.take 4 (.take 5 (.take 6 (.alt 7 .done .stop))))))))
def plGL25t_1 : Plan := (.take 0 (.take 1 (.take 2 (.take 3 (.take 4 (.take 5 (.alt 6 (.alt 7 .done .stop) .stop)))))))
def plGL25t_2 : Plan := (.take 0 (.take 1 (.take 3 (.take 4 (.take 5 (.alt 2 (.alt 6 (.alt 7 .done .stop) .stop) (.alt 6 (.alt 2 (.alt 7 .done .stop) .stop) .stop)))))))
def plGL25t_4 : Plan := (.take 0 (.take 1 (.take 2 (.take 3 (.take 4 (.take 5 (.take 6 (.take 7 (.take 8 (.take 9 (.take 10 (.take 11 (.take 12 (.take 13 (.take 14 (.take 15 (.take 16 (.take 17 (.take 18 (.take 19 (.take 20 (.take 21 (.take 22 (.take 23 (.take 24 (.take 25 (.take 26 (.take 27 (.take 28 (.take 29 .done))))))))))))))))))))))))))))))
def plGL25t_5 : Plan := (.take 0 (.take 1 (.take 2 (.alt 3 (.take 4 (.take 5 (.take 6 (.take 7 (.take 8 (.take 10 (.take 11 (.alt 9 (.take 12 (.take 13 (.take 14 (.take 15 (.take 16 (.take 17 (.take 18 (.take 19 (.take 20 (.take 22 (.take 23 (.take 24 (.take 25 (.alt 21 (.alt 26 (.take 27 (.take 28 (.take 29 .done))) .stop) (.alt 26 (.alt 21 (.take 27 (.take 28 (.take 29 .done))) .stop) .stop))))))))))))))) .stop)))))))) .stop))))
def plGL25t_6 : Plan := (.take 0 (.take 1 (.take 2 (.take 3 (.take 4 (.take 5 (.take 6 (.take 7 (.take 8 (.take 9 (.take 10 (.alt 11 .done .stop))))))))))))
def plGL25t_7 : Plan := (.take 0 (.take 1 (.take 2 (.take 4 (.take 5 (.take 6 (.take 7 (.alt 3 (.alt 8 (.take 9 (.alt 10 (.alt 11 .done .stop) .stop)) .stop) (.alt 8 (.take 9 (.alt 3 (.alt 10 (.alt 11 .done .stop) .stop) (.alt 10 (.alt 3 (.alt 11 .done .stop) .stop) .stop))) .stop)))))))))
theorem setB_at {xs : List Int} {n : Nat} : ∀ {k : Nat}, setB xs n k = true → ∀ t, t < k → 0 ≤ nth xs t ∧ nth xs t < n ∧ (t = 0 ∨ nth xs (t - 1) < nth xs t)
  | 0, _, t, ht => absurd ht (by omega)
  | k + 1, h, t, ht => by
    rw [setB] at h
    simp only [Bool.and_eq_true, Bool.or_eq_true, decide_eq_true_eq] at h
    rcases Nat.lt_or_ge t k with g | g
    · exact setB_at h.1.1.1 t g
    · obtain rfl : t = k := by omega
      exact ⟨h.1.1.2, h.1.2, h.2⟩
def cntF (l : List Mrk) (s : List Scr) (xs : List Int) (m i : Nat) : Nat := sumN i fun t => (elF l s (nth xs t).toNat m).toNat
def roomF (l : List Mrk) (s : List Scr) (xs : List Int) (j : Nat) : Nat := sumN j fun m => min (capF l m) (cntF l s xs m xs.length)
theorem cnt_le {l : List Mrk} {s : List Scr} {xs : List Int} {m i : Nat} : cntF l s xs m i ≤ i := sumN_bool
theorem room_le {l : List Mrk} {s : List Scr} {xs : List Int} : ∀ {j : Nat}, roomF l s xs j ≤ j * xs.length
  | 0 => by simp [roomF, sumN]
  | j + 1 => by
    have h := room_le (l := l) (s := s) (xs := xs) (j := j)
    have h2 := cnt_le (l := l) (s := s) (xs := xs) (m := j) (i := xs.length)
    rw [Nat.add_mul]
    show sumN j _ + min (capF l j) (cntF l s xs j xs.length) ≤ _
    unfold roomF at h
    omega
def shortB (l : List Mrk) (s : List Scr) (k : Int) (xs : List Int) : Bool := okK k && decide (xs ≠ []) && setB xs s.length xs.length && decide ((roomF l s xs l.length : Int) < k * xs.length)
set_option maxHeartbeats 4000000 in
theorem short_ok (l : List Mrk) (s : List Scr) (k : Int) (xs : List Int) (hx : xs.length ≤ 1000) (hl : MksOk l) (hs : ScsOk s) : Good Try.prog TT false 28 [mrksV l, scrsV s, .int .i64 k, ints xs] (· = .bool (shortB l s k xs)) := by
  have LL : (l.map encM).length = l.length := List.length_map ..
  have LS : (s.map encR).length = s.length := List.length_map ..
  have LX : (xs.map encI).length = xs.length := List.length_map ..
  have h16 := hl.len
  have h60 := hs.len
  cases hk : okK k with
  | false =>
    rw [shortB, hk]
    refine good_of mixed tabOk Try.func28 rfl rfl Try.ntmps28 Try.results28 rfl rfl ?_
    (conv => whnf); (repeat' (first | (refine arith_i ⟨by omega, by omega⟩ ?_; conv => whnf) | (refine arith_u ⟨by omega, by omega⟩ ?_; conv => whnf) | (refine arith_8 ⟨by omega, by omega⟩ ?_; conv => whnf) | (refine need_i (by first | omega | (simp only [List.length_cons, List.length_nil]; omega) | (simp only [List.length_append, List.length_cons, List.length_nil, List.length_map, List.length_replicate, List.length_modify]; omega)) ?_; conv => whnf) | ((with_reducible first | refine branch_tt ?_ | refine branch_ff ?_); conv => whnf) | (with_reducible refine branch_not ?_) | ((refine call_e ((right_ok l s k hl hs).mono fun r h => h.trans (bool_eq hk)) ?_); conv => whnf) | ((with_reducible first | refine slc_e ?_ | refine callS_a ?_ | refine bld_a ?_ | refine own_e ?_ | refine mkmap_b ?_); conv => whnf) | (refine draw_i 8 plGL25t_0 (by decide +kernel) ?_; (conv => whnf); fail_if_success (guard_target =~ False)) | (refine draw_i 8 plGL25t_1 (by decide +kernel) ?_; (conv => whnf); fail_if_success (guard_target =~ False)) | (refine draw_i 8 plGL25t_2 (by decide +kernel) ?_; (conv => whnf); fail_if_success (guard_target =~ False)) | ((with_reducible refine And.intro ?_ ?_) <;> (conv => whnf)) | (with_reducible exact trivial) | ((with_reducible first | refine branch_d (fun hq => ?_) (fun hq => ?_) | refine branch_e (fun hq => ?_) (fun hq => ?_) | refine branch_n (fun hq => ?_) (fun hq => ?_) | refine branch_i (fun hq => ?_) (fun hq => ?_)) <;> (try (exfalso; omega)) <;> (conv => whnf))))
    exact ret_p rfl rfl
  | true =>
    obtain ⟨q, rfl, hq1, hq2⟩ := okK_in hk
    have hxs : (xs = []) = (xs.length = 0) := by simp
    cases hset : setB xs s.length xs.length with
    | false =>
      have e : shortB l s q xs = false := by rw [shortB, hset]; simp
      rw [e]
      refine good_of mixed tabOk Try.func28 rfl rfl Try.ntmps28 Try.results28 rfl rfl ?_
      (conv => whnf); (repeat' (first | (refine arith_i ⟨by omega, by omega⟩ ?_; conv => whnf) | (refine arith_u ⟨by omega, by omega⟩ ?_; conv => whnf) | (refine arith_8 ⟨by omega, by omega⟩ ?_; conv => whnf) | (refine need_i (by first | omega | (simp only [List.length_cons, List.length_nil]; omega) | (simp only [List.length_append, List.length_cons, List.length_nil, List.length_map, List.length_replicate, List.length_modify]; omega)) ?_; conv => whnf) | ((with_reducible first | refine branch_tt ?_ | refine branch_ff ?_); conv => whnf) | (with_reducible refine branch_not ?_) | ((refine call_e ((right_ok l s q hl hs).mono fun r h => h.trans (bool_eq hk)) ?_); conv => whnf) | (((rw [LS]; refine call_e ((isSet_ok xs s.length hx h60).mono fun r h => h.trans (bool_eq hset)) ?_)); conv => whnf) | ((with_reducible first | refine slc_e ?_ | refine callS_a ?_ | refine bld_a ?_ | refine own_e ?_ | refine mkmap_b ?_); conv => whnf) | (refine draw_i 8 plGL25t_0 (by decide +kernel) ?_; (conv => whnf); fail_if_success (guard_target =~ False)) | (refine draw_i 8 plGL25t_1 (by decide +kernel) ?_; (conv => whnf); fail_if_success (guard_target =~ False)) | (refine draw_i 8 plGL25t_2 (by decide +kernel) ?_; (conv => whnf); fail_if_success (guard_target =~ False)) | ((with_reducible refine And.intro ?_ ?_) <;> (conv => whnf)) | (with_reducible exact trivial) | ((with_reducible first | refine branch_d (fun hq => ?_) (fun hq => ?_) | refine branch_e (fun hq => ?_) (fun hq => ?_) | refine branch_n (fun hq => ?_) (fun hq => ?_) | refine branch_i (fun hq => ?_) (fun hq => ?_)) <;> (try (exfalso; omega)) <;> (conv => whnf))))
      all_goals exact ret_p rfl rfl
    | true =>
    have hat := setB_at hset
    have e : shortB l s q xs = (decide (xs.length ≠ 0) && decide ((roomF l s xs l.length : Int) < q * xs.length)) := by rw [shortB, hset, hk, show decide (xs ≠ []) = decide (xs.length ≠ 0) by simp]; simp
    rw [e]
    refine good_of mixed tabOk Try.func28 rfl rfl Try.ntmps28 Try.results28 rfl rfl ?_
    (conv => whnf); (repeat' (first | (refine arith_i ⟨by omega, by omega⟩ ?_; conv => whnf) | (refine arith_u ⟨by omega, by omega⟩ ?_; conv => whnf) | (refine arith_8 ⟨by omega, by omega⟩ ?_; conv => whnf) | (refine need_i (by first | omega | (simp only [List.length_cons, List.length_nil]; omega) | (simp only [List.length_append, List.length_cons, List.length_nil, List.length_map, List.length_replicate, List.length_modify]; omega)) ?_; conv => whnf) | ((with_reducible first | refine branch_tt ?_ | refine branch_ff ?_); conv => whnf) | (with_reducible refine branch_not ?_) | ((refine call_e ((right_ok l s q hl hs).mono fun r h => h.trans (bool_eq hk)) ?_); conv => whnf) | (((rw [LS]; refine call_e ((isSet_ok xs s.length hx h60).mono fun r h => h.trans (bool_eq hset)) ?_)); conv => whnf) | ((with_reducible first | refine slc_e ?_ | refine callS_a ?_ | refine bld_a ?_ | refine own_e ?_ | refine mkmap_b ?_); conv => whnf) | (refine draw_i 8 plGL25t_0 (by decide +kernel) ?_; (conv => whnf); fail_if_success (guard_target =~ False)) | (refine draw_i 8 plGL25t_1 (by decide +kernel) ?_; (conv => whnf); fail_if_success (guard_target =~ False)) | (refine draw_i 8 plGL25t_2 (by decide +kernel) ?_; (conv => whnf); fail_if_success (guard_target =~ False)) | ((with_reducible refine And.intro ?_ ?_) <;> (conv => whnf)) | (with_reducible exact trivial) | ((with_reducible first | refine branch_d (fun hq => ?_) (fun hq => ?_) | refine branch_e (fun hq => ?_) (fun hq => ?_) | refine branch_n (fun hq => ?_) (fun hq => ?_) | refine branch_i (fun hq => ?_) (fun hq => ?_)) <;> (try (exfalso; omega)) <;> (conv => whnf))))
    · exact ret_p rfl (bool_eq (by rw [decide_eq_false (show ¬ xs.length ≠ 0 by omega)]; rfl))
    rw [decide_eq_true (show xs.length ≠ 0 by omega)]
    refine loop_i (fun j : Nat => j ≤ l.length) (fun j => mkSt [(0, mrksV l), (1, scrsV s), (2, .int .i64 q), (3, ints xs), (9, .int .i64 (roomF l s xs j)), (32, mrksV l), (33, .int .i64 l.length), (34, .int .i64 j)] [] false) (fun j => l.length - j) 0 (Nat.zero_le _) (le_mk ⟨rfl, rfl, rfl, rfl, rfl, rfl, int_eq (by rw [LL]), rfl, trivial⟩ trivial rfl) ?_
    intro j hj
    have hr := room_le (l := l) (s := s) (xs := xs) (j := j)
    have hr2 : j * xs.length ≤ 16 * 1000 := Nat.mul_le_mul (by omega) hx
    rcases Nat.lt_or_ge j l.length with hjl | hjl
    · obtain ⟨m, hm⟩ : ∃ m, l[j]? = some m := ⟨_, List.getElem?_eq_getElem hjl⟩
      (conv => whnf); (repeat' (first | (refine arith_i ⟨by omega, by omega⟩ ?_; conv => whnf) | (refine arith_u ⟨by omega, by omega⟩ ?_; conv => whnf) | (refine arith_8 ⟨by omega, by omega⟩ ?_; conv => whnf) | (refine need_i (by first | omega | (simp only [List.length_cons, List.length_nil]; omega) | (simp only [List.length_append, List.length_cons, List.length_nil, List.length_map, List.length_replicate, List.length_modify]; omega)) ?_; conv => whnf) | ((with_reducible first | refine branch_tt ?_ | refine branch_ff ?_); conv => whnf) | (with_reducible refine branch_not ?_) | ((refine idx_cs hm ?_); conv => whnf) | ((with_reducible first | refine slc_e ?_ | refine callS_a ?_ | refine bld_a ?_ | refine own_e ?_ | refine mkmap_b ?_); conv => whnf) | (refine draw_i 8 plGL25t_0 (by decide +kernel) ?_; (conv => whnf); fail_if_success (guard_target =~ False)) | (refine draw_i 8 plGL25t_1 (by decide +kernel) ?_; (conv => whnf); fail_if_success (guard_target =~ False)) | (refine draw_i 8 plGL25t_2 (by decide +kernel) ?_; (conv => whnf); fail_if_success (guard_target =~ False)) | ((with_reducible refine And.intro ?_ ?_) <;> (conv => whnf)) | (with_reducible exact trivial) | ((with_reducible first | refine branch_d (fun hq => ?_) (fun hq => ?_) | refine branch_e (fun hq => ?_) (fun hq => ?_) | refine branch_n (fun hq => ?_) (fun hq => ?_) | refine branch_i (fun hq => ?_) (fun hq => ?_)) <;> (try (exfalso; omega)) <;> (conv => whnf))))
      refine loop_i (fun i : Nat => i ≤ xs.length) (fun i => mkSt [(0, mrksV l), (1, scrsV s), (2, .int .i64 q), (3, ints xs), (9, .int .i64 (roomF l s xs j)), (11, .ptr 11 0), (12, .int .i64 (cntF l s xs j i)), (32, mrksV l), (33, .int .i64 l.length), (34, .int .i64 j), (38, ints xs), (39, .int .i64 xs.length), (40, .int .i64 i)] [(11, encM m)] false) (fun i => xs.length - i) 0 (Nat.zero_le _) (le_mk ⟨rfl, rfl, rfl, rfl, rfl, rfl, rfl, rfl, rfl, rfl, rfl, int_eq (by rw [LX]), rfl, trivial⟩ ⟨rfl, trivial⟩ rfl) ?_
      intro i hi
      have hc := cnt_le (l := l) (s := s) (xs := xs) (m := j) (i := i)
      rcases Nat.lt_or_ge i xs.length with hil | hil
      · obtain ⟨x, hx'⟩ : ∃ x, xs[i]? = some x := ⟨_, List.getElem?_eq_getElem hil⟩
        have hn1 := nth_eq hx'
        obtain ⟨hx0, hx1, -⟩ := hat i hil
        rw [hn1] at hx0 hx1
        obtain ⟨y, hy⟩ : ∃ y, s[x.toNat]? = some y := ⟨_, List.getElem?_eq_getElem (by omega)⟩
        have hE := elF_at hy hm
        have hnext : cntF l s xs j (i + 1) = cntF l s xs j i + (mayB m y).toNat := by rw [← hE, ← hn1]; rfl
        (conv => whnf); (repeat' (first | (refine arith_i ⟨by omega, by omega⟩ ?_; conv => whnf) | (refine arith_u ⟨by omega, by omega⟩ ?_; conv => whnf) | (refine arith_8 ⟨by omega, by omega⟩ ?_; conv => whnf) | (refine need_i (by first | omega | (simp only [List.length_cons, List.length_nil]; omega) | (simp only [List.length_append, List.length_cons, List.length_nil, List.length_map, List.length_replicate, List.length_modify]; omega)) ?_; conv => whnf) | ((with_reducible first | refine branch_tt ?_ | refine branch_ff ?_); conv => whnf) | (with_reducible refine branch_not ?_) | ((refine idx_cs hx' ?_); conv => whnf) | ((refine idx_ms hx0 hy ?_); conv => whnf) | ((refine call_e ((eligible_ok l m.id y hl.short).mono fun r h => h.trans (bool_eq (elig_own hl.asc hm y))) ?_); conv => whnf) | ((with_reducible first | refine slc_e ?_ | refine callS_a ?_ | refine bld_a ?_ | refine own_e ?_ | refine mkmap_b ?_); conv => whnf) | (refine draw_i 8 plGL25t_0 (by decide +kernel) ?_; (conv => whnf); fail_if_success (guard_target =~ False)) | (refine draw_i 8 plGL25t_1 (by decide +kernel) ?_; (conv => whnf); fail_if_success (guard_target =~ False)) | (refine draw_i 8 plGL25t_2 (by decide +kernel) ?_; (conv => whnf); fail_if_success (guard_target =~ False)) | ((with_reducible refine And.intro ?_ ?_) <;> (conv => whnf)) | (with_reducible exact trivial) | ((with_reducible first | refine branch_d (fun hq => ?_) (fun hq => ?_) | refine branch_e (fun hq => ?_) (fun hq => ?_) | refine branch_n (fun hq => ?_) (fun hq => ?_) | refine branch_i (fun hq => ?_) (fun hq => ?_)) <;> (try (exfalso; omega)) <;> (conv => whnf))))
        all_goals first | exact ⟨i + 1, by omega, by rw [hnext]; simp only [*, Bool.toNat_true, Bool.toNat_false, Nat.add_zero]; exact (le_mk (by repeat' (first | exact trivial | rfl | apply And.intro)) (by repeat' (first | exact trivial | rfl | apply And.intro)) rfl), by omega⟩
      · obtain rfl : i = xs.length := by omega
        have hcp := (hl.all j m hm).cap
        have hr3 := room_le (l := l) (s := s) (xs := xs) (j := j + 1)
        have hr4 : (j + 1) * xs.length ≤ 16 * 1000 := Nat.mul_le_mul (by omega) hx
        have hmin : ((roomF l s xs j : Int) + if (cntF l s xs j xs.length : Int) < m.cap then (cntF l s xs j xs.length : Int) else m.cap) = (roomF l s xs (j + 1) : Nat) := by
          rw [show roomF l s xs (j + 1) = roomF l s xs j + min (capF l j) (cntF l s xs j xs.length) from rfl, capF_at hm]
          split <;> omega
        (conv => whnf); (repeat' (first | (refine arith_i ⟨by omega, by omega⟩ ?_; conv => whnf) | (refine arith_u ⟨by omega, by omega⟩ ?_; conv => whnf) | (refine arith_8 ⟨by omega, by omega⟩ ?_; conv => whnf) | (refine need_i (by first | omega | (simp only [List.length_cons, List.length_nil]; omega) | (simp only [List.length_append, List.length_cons, List.length_nil, List.length_map, List.length_replicate, List.length_modify]; omega)) ?_; conv => whnf) | ((with_reducible first | refine branch_tt ?_ | refine branch_ff ?_); conv => whnf) | (with_reducible refine branch_not ?_) | (((rw [hmin]; refine arith_i ⟨by omega, by omega⟩ ?_)); conv => whnf) | ((with_reducible first | refine slc_e ?_ | refine callS_a ?_ | refine bld_a ?_ | refine own_e ?_ | refine mkmap_b ?_); conv => whnf) | (refine draw_i 8 plGL25t_0 (by decide +kernel) ?_; (conv => whnf); fail_if_success (guard_target =~ False)) | (refine draw_i 8 plGL25t_1 (by decide +kernel) ?_; (conv => whnf); fail_if_success (guard_target =~ False)) | (refine draw_i 8 plGL25t_2 (by decide +kernel) ?_; (conv => whnf); fail_if_success (guard_target =~ False)) | ((with_reducible refine And.intro ?_ ?_) <;> (conv => whnf)) | (with_reducible exact trivial) | ((with_reducible first | refine branch_d (fun hq => ?_) (fun hq => ?_) | refine branch_e (fun hq => ?_) (fun hq => ?_) | refine branch_n (fun hq => ?_) (fun hq => ?_) | refine branch_i (fun hq => ?_) (fun hq => ?_)) <;> (try (exfalso; omega)) <;> (conv => whnf))))
        exact ⟨j + 1, by omega, le_mk ⟨rfl, rfl, rfl, rfl, int_eq hmin, rfl, rfl, rfl, trivial⟩ trivial rfl, by omega⟩
    · obtain rfl : j = l.length := by omega
      have hmul : 0 ≤ (q : Int) * xs.length ∧ (q : Int) * xs.length ≤ 2000 := by rcases (show q = 1 ∨ q = 2 by omega) with rfl | rfl <;> constructor <;> omega
      (conv => whnf); (repeat' (first | (refine arith_i ⟨by omega, by omega⟩ ?_; conv => whnf) | (refine arith_u ⟨by omega, by omega⟩ ?_; conv => whnf) | (refine arith_8 ⟨by omega, by omega⟩ ?_; conv => whnf) | (refine need_i (by first | omega | (simp only [List.length_cons, List.length_nil]; omega) | (simp only [List.length_append, List.length_cons, List.length_nil, List.length_map, List.length_replicate, List.length_modify]; omega)) ?_; conv => whnf) | ((with_reducible first | refine branch_tt ?_ | refine branch_ff ?_); conv => whnf) | (with_reducible refine branch_not ?_) | (((rw [LX]; refine arith_i ⟨by omega, by omega⟩ ?_)); conv => whnf) | ((with_reducible first | refine slc_e ?_ | refine callS_a ?_ | refine bld_a ?_ | refine own_e ?_ | refine mkmap_b ?_); conv => whnf) | (refine draw_i 8 plGL25t_0 (by decide +kernel) ?_; (conv => whnf); fail_if_success (guard_target =~ False)) | (refine draw_i 8 plGL25t_1 (by decide +kernel) ?_; (conv => whnf); fail_if_success (guard_target =~ False)) | (refine draw_i 8 plGL25t_2 (by decide +kernel) ?_; (conv => whnf); fail_if_success (guard_target =~ False)) | ((with_reducible refine And.intro ?_ ?_) <;> (conv => whnf)) | (with_reducible exact trivial) | ((with_reducible first | refine branch_d (fun hq => ?_) (fun hq => ?_) | refine branch_e (fun hq => ?_) (fun hq => ?_) | refine branch_n (fun hq => ?_) (fun hq => ?_) | refine branch_i (fun hq => ?_) (fun hq => ?_)) <;> (try (exfalso; omega)) <;> (conv => whnf))))
      exact ret_p rfl rfl
set_option maxHeartbeats 4000000 in
theorem rshort_ok (l : List Mrk) (s : List Scr) (k : Int) (xs : List Int) (hx : xs.length ≤ 1000) (hl : MksOk l) (hs : ScsOk s) : Good Try.prog TT false 29 [mrksV l, scrsV s, .int .i64 k, ints xs] (· = .bool (shortB l s k xs)) := by
  have LL : (l.map encM).length = l.length := List.length_map ..
  have LS : (s.map encR).length = s.length := List.length_map ..
  have LX : (xs.map encI).length = xs.length := List.length_map ..
  have h16 := hl.len
  have h60 := hs.len
  cases hk : okK k with
  | false =>
    rw [shortB, hk]
    refine good_of mixed tabOk Try.func29 rfl rfl Try.ntmps29 Try.results29 rfl rfl ?_
    (conv => whnf); (repeat' (first | (refine arith_i ⟨by omega, by omega⟩ ?_; conv => whnf) | (refine arith_u ⟨by omega, by omega⟩ ?_; conv => whnf) | (refine arith_8 ⟨by omega, by omega⟩ ?_; conv => whnf) | (refine need_i (by first | omega | (simp only [List.length_cons, List.length_nil]; omega) | (simp only [List.length_append, List.length_cons, List.length_nil, List.length_map, List.length_replicate, List.length_modify]; omega)) ?_; conv => whnf) | ((with_reducible first | refine branch_tt ?_ | refine branch_ff ?_); conv => whnf) | (with_reducible refine branch_not ?_) | ((refine call_e ((rRight_ok l s k hl hs).mono fun r h => h.trans (bool_eq hk)) ?_); conv => whnf) | ((with_reducible first | refine slc_e ?_ | refine callS_a ?_ | refine bld_a ?_ | refine own_e ?_ | refine mkmap_b ?_); conv => whnf) | (refine draw_i 30 plGL25t_4 (by decide +kernel) ?_; (conv => whnf); fail_if_success (guard_target =~ False)) | (refine draw_i 30 plGL25t_5 (by decide +kernel) ?_; (conv => whnf); fail_if_success (guard_target =~ False)) | (refine draw_i 12 plGL25t_6 (by decide +kernel) ?_; (conv => whnf); fail_if_success (guard_target =~ False)) | (refine draw_i 12 plGL25t_7 (by decide +kernel) ?_; (conv => whnf); fail_if_success (guard_target =~ False)) | ((with_reducible refine And.intro ?_ ?_) <;> (conv => whnf)) | (with_reducible exact trivial) | ((with_reducible first | refine branch_d (fun hq => ?_) (fun hq => ?_) | refine branch_e (fun hq => ?_) (fun hq => ?_) | refine branch_n (fun hq => ?_) (fun hq => ?_) | refine branch_i (fun hq => ?_) (fun hq => ?_)) <;> (try (exfalso; omega)) <;> (conv => whnf))))
    exact ret_p rfl rfl
  | true =>
    obtain ⟨q, rfl, hq1, hq2⟩ := okK_in hk
    have hxs : (xs = []) = (xs.length = 0) := by simp
    refine good_of mixed tabOk Try.func29 rfl rfl Try.ntmps29 Try.results29 rfl rfl ?_
    (conv => whnf); (repeat' (first | (refine arith_i ⟨by omega, by omega⟩ ?_; conv => whnf) | (refine arith_u ⟨by omega, by omega⟩ ?_; conv => whnf) | (refine arith_8 ⟨by omega, by omega⟩ ?_; conv => whnf) | (refine need_i (by first | omega | (simp only [List.length_cons, List.length_nil]; omega) | (simp only [List.length_append, List.length_cons, List.length_nil, List.length_map, List.length_replicate, List.length_modify]; omega)) ?_; conv => whnf) | ((with_reducible first | refine branch_tt ?_ | refine branch_ff ?_); conv => whnf) | (with_reducible refine branch_not ?_) | ((refine call_e ((rRight_ok l s q hl hs).mono fun r h => h.trans (bool_eq hk)) ?_); conv => whnf) | ((with_reducible first | refine slc_e ?_ | refine callS_a ?_ | refine bld_a ?_ | refine own_e ?_ | refine mkmap_b ?_); conv => whnf) | (refine draw_i 30 plGL25t_4 (by decide +kernel) ?_; (conv => whnf); fail_if_success (guard_target =~ False)) | (refine draw_i 30 plGL25t_5 (by decide +kernel) ?_; (conv => whnf); fail_if_success (guard_target =~ False)) | (refine draw_i 12 plGL25t_6 (by decide +kernel) ?_; (conv => whnf); fail_if_success (guard_target =~ False)) | (refine draw_i 12 plGL25t_7 (by decide +kernel) ?_; (conv => whnf); fail_if_success (guard_target =~ False)) | ((with_reducible refine And.intro ?_ ?_) <;> (conv => whnf)) | (with_reducible exact trivial) | ((with_reducible first | refine branch_d (fun hq => ?_) (fun hq => ?_) | refine branch_e (fun hq => ?_) (fun hq => ?_) | refine branch_n (fun hq => ?_) (fun hq => ?_) | refine branch_i (fun hq => ?_) (fun hq => ?_)) <;> (try (exfalso; omega)) <;> (conv => whnf))))
    · have e : shortB l s q xs = false := by rw [shortB, decide_eq_false (by rw [Ne, hxs]; omega)]; simp
      rw [e]
      exact ret_p rfl rfl
    have e : shortB l s q xs = (setB xs s.length xs.length && decide ((roomF l s xs l.length : Int) < q * xs.length)) := by rw [shortB, hk, decide_eq_true (show xs ≠ [] by rw [Ne, hxs]; omega)]; simp
    rw [e]
    refine loop_i (fun i : Nat => i ≤ xs.length ∧ setB xs s.length i = true) (fun i => mkSt [(0, mrksV l), (1, scrsV s), (2, .int .i64 q), (3, ints xs), (9, .int .i64 i)] [] false) (fun i => xs.length - i) 0 ⟨Nat.zero_le _, rfl⟩ (le_mk ⟨rfl, rfl, rfl, rfl, rfl, trivial⟩ trivial rfl) ?_
    rintro i ⟨hi, hsB⟩
    rcases Nat.lt_or_ge i xs.length with hil | hil
    · obtain ⟨x, hx'⟩ : ∃ x, xs[i]? = some x := ⟨_, List.getElem?_eq_getElem hil⟩
      have hn1 := nth_eq hx'
      have hbad : (x < 0 ∨ (s.length : Int) ≤ x ∨ (0 < i ∧ x ≤ nth xs (i - 1))) → setB xs s.length xs.length = false := fun h => setB_false (i := i + 1) (by omega) (by
        rw [setB, hn1, Bool.eq_false_iff, Ne]
        simp only [Bool.and_eq_true, Bool.or_eq_true, decide_eq_true_eq]
        omega)
      have hgood : 0 ≤ x → x < s.length → (i = 0 ∨ nth xs (i - 1) < x) → setB xs s.length (i + 1) = true := fun h1 h2 h3 => by
        rw [setB, hn1, hsB]
        simp only [Bool.and_eq_true, Bool.or_eq_true, decide_eq_true_eq]
        exact ⟨⟨⟨trivial, h1⟩, h2⟩, h3⟩
      rcases Nat.eq_zero_or_pos i with h0 | h0
      · subst h0
        (conv => whnf); (repeat' (first | (refine arith_i ⟨by omega, by omega⟩ ?_; conv => whnf) | (refine arith_u ⟨by omega, by omega⟩ ?_; conv => whnf) | (refine arith_8 ⟨by omega, by omega⟩ ?_; conv => whnf) | (refine need_i (by first | omega | (simp only [List.length_cons, List.length_nil]; omega) | (simp only [List.length_append, List.length_cons, List.length_nil, List.length_map, List.length_replicate, List.length_modify]; omega)) ?_; conv => whnf) | ((with_reducible first | refine branch_tt ?_ | refine branch_ff ?_); conv => whnf) | (with_reducible refine branch_not ?_) | ((refine idx_cs hx' ?_); conv => whnf) | ((with_reducible first | refine slc_e ?_ | refine callS_a ?_ | refine bld_a ?_ | refine own_e ?_ | refine mkmap_b ?_); conv => whnf) | (refine draw_i 30 plGL25t_4 (by decide +kernel) ?_; (conv => whnf); fail_if_success (guard_target =~ False)) | (refine draw_i 30 plGL25t_5 (by decide +kernel) ?_; (conv => whnf); fail_if_success (guard_target =~ False)) | (refine draw_i 12 plGL25t_6 (by decide +kernel) ?_; (conv => whnf); fail_if_success (guard_target =~ False)) | (refine draw_i 12 plGL25t_7 (by decide +kernel) ?_; (conv => whnf); fail_if_success (guard_target =~ False)) | ((with_reducible refine And.intro ?_ ?_) <;> (conv => whnf)) | (with_reducible exact trivial) | ((with_reducible first | refine branch_d (fun hq => ?_) (fun hq => ?_) | refine branch_e (fun hq => ?_) (fun hq => ?_) | refine branch_n (fun hq => ?_) (fun hq => ?_) | refine branch_i (fun hq => ?_) (fun hq => ?_)) <;> (try (exfalso; omega)) <;> (conv => whnf))))
        all_goals first | exact ret_p rfl (bool_eq (by rw [hbad (by omega)]; rfl)) | exact ⟨_ + 1, ⟨by omega, hgood (by omega) (by omega) (by omega)⟩, (le_mk (by repeat' (first | exact trivial | rfl | apply And.intro)) (by repeat' (first | exact trivial | rfl | apply And.intro)) rfl), by omega⟩
      · obtain ⟨y, hy'⟩ : ∃ y, xs[i - 1]? = some y := ⟨_, List.getElem?_eq_getElem (by omega)⟩
        have hn2 := nth_eq hy'
        rw [hn2] at hbad hgood
        (conv => whnf); (repeat' (first | (refine arith_i ⟨by omega, by omega⟩ ?_; conv => whnf) | (refine arith_u ⟨by omega, by omega⟩ ?_; conv => whnf) | (refine arith_8 ⟨by omega, by omega⟩ ?_; conv => whnf) | (refine need_i (by first | omega | (simp only [List.length_cons, List.length_nil]; omega) | (simp only [List.length_append, List.length_cons, List.length_nil, List.length_map, List.length_replicate, List.length_modify]; omega)) ?_; conv => whnf) | ((with_reducible first | refine branch_tt ?_ | refine branch_ff ?_); conv => whnf) | (with_reducible refine branch_not ?_) | ((refine idx_cs hx' ?_); conv => whnf) | ((refine idx_ms (by omega) (by rw [show ((i : Int) - 1).toNat = i - 1 by omega]; exact hy') ?_); conv => whnf) | ((with_reducible first | refine slc_e ?_ | refine callS_a ?_ | refine bld_a ?_ | refine own_e ?_ | refine mkmap_b ?_); conv => whnf) | (refine draw_i 30 plGL25t_4 (by decide +kernel) ?_; (conv => whnf); fail_if_success (guard_target =~ False)) | (refine draw_i 30 plGL25t_5 (by decide +kernel) ?_; (conv => whnf); fail_if_success (guard_target =~ False)) | (refine draw_i 12 plGL25t_6 (by decide +kernel) ?_; (conv => whnf); fail_if_success (guard_target =~ False)) | (refine draw_i 12 plGL25t_7 (by decide +kernel) ?_; (conv => whnf); fail_if_success (guard_target =~ False)) | ((with_reducible refine And.intro ?_ ?_) <;> (conv => whnf)) | (with_reducible exact trivial) | ((with_reducible first | refine branch_d (fun hq => ?_) (fun hq => ?_) | refine branch_e (fun hq => ?_) (fun hq => ?_) | refine branch_n (fun hq => ?_) (fun hq => ?_) | refine branch_i (fun hq => ?_) (fun hq => ?_)) <;> (try (exfalso; omega)) <;> (conv => whnf))))
        all_goals first | exact ret_p rfl (bool_eq (by rw [hbad (by omega)]; rfl)) | exact ⟨_ + 1, ⟨by omega, hgood (by omega) (by omega) (by omega)⟩, (le_mk (by repeat' (first | exact trivial | rfl | apply And.intro)) (by repeat' (first | exact trivial | rfl | apply And.intro)) rfl), by omega⟩
    · (conv => whnf); (repeat' (first | (refine arith_i ⟨by omega, by omega⟩ ?_; conv => whnf) | (refine arith_u ⟨by omega, by omega⟩ ?_; conv => whnf) | (refine arith_8 ⟨by omega, by omega⟩ ?_; conv => whnf) | (refine need_i (by first | omega | (simp only [List.length_cons, List.length_nil]; omega) | (simp only [List.length_append, List.length_cons, List.length_nil, List.length_map, List.length_replicate, List.length_modify]; omega)) ?_; conv => whnf) | ((with_reducible first | refine branch_tt ?_ | refine branch_ff ?_); conv => whnf) | (with_reducible refine branch_not ?_) | ((with_reducible first | refine slc_e ?_ | refine callS_a ?_ | refine bld_a ?_ | refine own_e ?_ | refine mkmap_b ?_); conv => whnf) | (refine draw_i 30 plGL25t_4 (by decide +kernel) ?_; (conv => whnf); fail_if_success (guard_target =~ False)) | (refine draw_i 30 plGL25t_5 (by decide +kernel) ?_; (conv => whnf); fail_if_success (guard_target =~ False)) | (refine draw_i 12 plGL25t_6 (by decide +kernel) ?_; (conv => whnf); fail_if_success (guard_target =~ False)) | (refine draw_i 12 plGL25t_7 (by decide +kernel) ?_; (conv => whnf); fail_if_success (guard_target =~ False)) | ((with_reducible refine And.intro ?_ ?_) <;> (conv => whnf)) | (with_reducible exact trivial) | ((with_reducible first | refine branch_d (fun hq => ?_) (fun hq => ?_) | refine branch_e (fun hq => ?_) (fun hq => ?_) | refine branch_n (fun hq => ?_) (fun hq => ?_) | refine branch_i (fun hq => ?_) (fun hq => ?_)) <;> (try (exfalso; omega)) <;> (conv => whnf))))
      obtain rfl : i = xs.length := by omega
      rw [hsB]
      refine loop_i (fun j : Nat => j ≤ l.length) (fun j => mkSt [(0, mrksV l), (1, scrsV s), (2, .int .i64 q), (3, ints xs), (10, .int .i64 (roomF l s xs j)), (11, .int .i64 j)] [] false) (fun j => l.length - j) 0 (Nat.zero_le _) (le_mk ⟨rfl, rfl, rfl, rfl, rfl, rfl, trivial⟩ trivial rfl) ?_
      have hat := setB_at hsB
      intro j hj
      have hr := room_le (l := l) (s := s) (xs := xs) (j := j)
      have hr2 : j * xs.length ≤ 16 * 1000 := Nat.mul_le_mul (by omega) hx
      rcases Nat.lt_or_ge j l.length with hjl | hjl
      · obtain ⟨m, hm⟩ : ∃ m, l[j]? = some m := ⟨_, List.getElem?_eq_getElem hjl⟩
        (conv => whnf); (repeat' (first | (refine arith_i ⟨by omega, by omega⟩ ?_; conv => whnf) | (refine arith_u ⟨by omega, by omega⟩ ?_; conv => whnf) | (refine arith_8 ⟨by omega, by omega⟩ ?_; conv => whnf) | (refine need_i (by first | omega | (simp only [List.length_cons, List.length_nil]; omega) | (simp only [List.length_append, List.length_cons, List.length_nil, List.length_map, List.length_replicate, List.length_modify]; omega)) ?_; conv => whnf) | ((with_reducible first | refine branch_tt ?_ | refine branch_ff ?_); conv => whnf) | (with_reducible refine branch_not ?_) | ((refine idx_cs hm ?_); conv => whnf) | ((with_reducible first | refine slc_e ?_ | refine callS_a ?_ | refine bld_a ?_ | refine own_e ?_ | refine mkmap_b ?_); conv => whnf) | (refine draw_i 30 plGL25t_4 (by decide +kernel) ?_; (conv => whnf); fail_if_success (guard_target =~ False)) | (refine draw_i 30 plGL25t_5 (by decide +kernel) ?_; (conv => whnf); fail_if_success (guard_target =~ False)) | (refine draw_i 12 plGL25t_6 (by decide +kernel) ?_; (conv => whnf); fail_if_success (guard_target =~ False)) | (refine draw_i 12 plGL25t_7 (by decide +kernel) ?_; (conv => whnf); fail_if_success (guard_target =~ False)) | ((with_reducible refine And.intro ?_ ?_) <;> (conv => whnf)) | (with_reducible exact trivial) | ((with_reducible first | refine branch_d (fun hq => ?_) (fun hq => ?_) | refine branch_e (fun hq => ?_) (fun hq => ?_) | refine branch_n (fun hq => ?_) (fun hq => ?_) | refine branch_i (fun hq => ?_) (fun hq => ?_)) <;> (try (exfalso; omega)) <;> (conv => whnf))))
        refine loop_i (fun i : Nat => i ≤ xs.length) (fun i => mkSt [(0, mrksV l), (1, scrsV s), (2, .int .i64 q), (3, ints xs), (10, .int .i64 (roomF l s xs j)), (11, .int .i64 j), (12, .int .i64 (cntF l s xs j i)), (13, .int .i64 i)] [] false) (fun i => xs.length - i) 0 (Nat.zero_le _) (le_mk ⟨rfl, rfl, rfl, rfl, rfl, rfl, rfl, rfl, trivial⟩ trivial rfl) ?_
        intro i hi
        have hc := cnt_le (l := l) (s := s) (xs := xs) (m := j) (i := i)
        rcases Nat.lt_or_ge i xs.length with hil | hil
        · obtain ⟨x, hx'⟩ : ∃ x, xs[i]? = some x := ⟨_, List.getElem?_eq_getElem hil⟩
          have hn1 := nth_eq hx'
          obtain ⟨hx0, hx1, -⟩ := hat i hil
          rw [hn1] at hx0 hx1
          obtain ⟨y, hy⟩ : ∃ y, s[x.toNat]? = some y := ⟨_, List.getElem?_eq_getElem (by omega)⟩
          have hE := elF_at hy hm
          have hnext : cntF l s xs j (i + 1) = cntF l s xs j i + (mayB m y).toNat := by rw [← hE, ← hn1]; rfl
          (conv => whnf); (repeat' (first | (refine arith_i ⟨by omega, by omega⟩ ?_; conv => whnf) | (refine arith_u ⟨by omega, by omega⟩ ?_; conv => whnf) | (refine arith_8 ⟨by omega, by omega⟩ ?_; conv => whnf) | (refine need_i (by first | omega | (simp only [List.length_cons, List.length_nil]; omega) | (simp only [List.length_append, List.length_cons, List.length_nil, List.length_map, List.length_replicate, List.length_modify]; omega)) ?_; conv => whnf) | ((with_reducible first | refine branch_tt ?_ | refine branch_ff ?_); conv => whnf) | (with_reducible refine branch_not ?_) | ((refine idx_cs hm ?_); conv => whnf) | ((refine idx_cs hx' ?_); conv => whnf) | ((refine idx_ms hx0 hy ?_); conv => whnf) | ((refine call_e (fits_ok m y (hl.all _ m hm).len) ?_); conv => whnf) | ((with_reducible first | refine slc_e ?_ | refine callS_a ?_ | refine bld_a ?_ | refine own_e ?_ | refine mkmap_b ?_); conv => whnf) | (refine draw_i 30 plGL25t_4 (by decide +kernel) ?_; (conv => whnf); fail_if_success (guard_target =~ False)) | (refine draw_i 30 plGL25t_5 (by decide +kernel) ?_; (conv => whnf); fail_if_success (guard_target =~ False)) | (refine draw_i 12 plGL25t_6 (by decide +kernel) ?_; (conv => whnf); fail_if_success (guard_target =~ False)) | (refine draw_i 12 plGL25t_7 (by decide +kernel) ?_; (conv => whnf); fail_if_success (guard_target =~ False)) | ((with_reducible refine And.intro ?_ ?_) <;> (conv => whnf)) | (with_reducible exact trivial) | ((with_reducible first | refine branch_d (fun hq => ?_) (fun hq => ?_) | refine branch_e (fun hq => ?_) (fun hq => ?_) | refine branch_n (fun hq => ?_) (fun hq => ?_) | refine branch_i (fun hq => ?_) (fun hq => ?_)) <;> (try (exfalso; omega)) <;> (conv => whnf))))
          all_goals first | exact ⟨i + 1, by omega, by rw [hnext]; simp only [*, Bool.toNat_true, Bool.toNat_false, Nat.add_zero]; exact (le_mk (by repeat' (first | exact trivial | rfl | apply And.intro)) (by repeat' (first | exact trivial | rfl | apply And.intro)) rfl), by omega⟩
        · obtain rfl : i = xs.length := by omega
          have hcp := (hl.all j m hm).cap
          have hr3 := room_le (l := l) (s := s) (xs := xs) (j := j + 1)
          have hr4 : (j + 1) * xs.length ≤ 16 * 1000 := Nat.mul_le_mul (by omega) hx
          have hmin : ((roomF l s xs j : Int) + if m.cap < (cntF l s xs j xs.length : Int) then m.cap else (cntF l s xs j xs.length : Int)) = (roomF l s xs (j + 1) : Nat) := by
            rw [show roomF l s xs (j + 1) = roomF l s xs j + min (capF l j) (cntF l s xs j xs.length) from rfl, capF_at hm]
            split <;> omega
          (conv => whnf); (repeat' (first | (refine arith_i ⟨by omega, by omega⟩ ?_; conv => whnf) | (refine arith_u ⟨by omega, by omega⟩ ?_; conv => whnf) | (refine arith_8 ⟨by omega, by omega⟩ ?_; conv => whnf) | (refine need_i (by first | omega | (simp only [List.length_cons, List.length_nil]; omega) | (simp only [List.length_append, List.length_cons, List.length_nil, List.length_map, List.length_replicate, List.length_modify]; omega)) ?_; conv => whnf) | ((with_reducible first | refine branch_tt ?_ | refine branch_ff ?_); conv => whnf) | (with_reducible refine branch_not ?_) | ((refine idx_cs hm ?_); conv => whnf) | (((rw [hmin]; refine arith_i ⟨by omega, by omega⟩ ?_)); conv => whnf) | ((with_reducible first | refine slc_e ?_ | refine callS_a ?_ | refine bld_a ?_ | refine own_e ?_ | refine mkmap_b ?_); conv => whnf) | (refine draw_i 30 plGL25t_4 (by decide +kernel) ?_; (conv => whnf); fail_if_success (guard_target =~ False)) | (refine draw_i 30 plGL25t_5 (by decide +kernel) ?_; (conv => whnf); fail_if_success (guard_target =~ False)) | (refine draw_i 12 plGL25t_6 (by decide +kernel) ?_; (conv => whnf); fail_if_success (guard_target =~ False)) | (refine draw_i 12 plGL25t_7 (by decide +kernel) ?_; (conv => whnf); fail_if_success (guard_target =~ False)) | ((with_reducible refine And.intro ?_ ?_) <;> (conv => whnf)) | (with_reducible exact trivial) | ((with_reducible first | refine branch_d (fun hq => ?_) (fun hq => ?_) | refine branch_e (fun hq => ?_) (fun hq => ?_) | refine branch_n (fun hq => ?_) (fun hq => ?_) | refine branch_i (fun hq => ?_) (fun hq => ?_)) <;> (try (exfalso; omega)) <;> (conv => whnf))))
          exact ⟨j + 1, by omega, le_mk ⟨rfl, rfl, rfl, rfl, int_eq hmin, rfl, trivial⟩ trivial rfl, by omega⟩
      · obtain rfl : j = l.length := by omega
        have hmul : 0 ≤ (q : Int) * xs.length ∧ (q : Int) * xs.length ≤ 2000 := by rcases (show q = 1 ∨ q = 2 by omega) with rfl | rfl <;> constructor <;> omega
        (conv => whnf); (repeat' (first | (refine arith_i ⟨by omega, by omega⟩ ?_; conv => whnf) | (refine arith_u ⟨by omega, by omega⟩ ?_; conv => whnf) | (refine arith_8 ⟨by omega, by omega⟩ ?_; conv => whnf) | (refine need_i (by first | omega | (simp only [List.length_cons, List.length_nil]; omega) | (simp only [List.length_append, List.length_cons, List.length_nil, List.length_map, List.length_replicate, List.length_modify]; omega)) ?_; conv => whnf) | ((with_reducible first | refine branch_tt ?_ | refine branch_ff ?_); conv => whnf) | (with_reducible refine branch_not ?_) | (((rw [LX]; refine arith_i ⟨by omega, by omega⟩ ?_)); conv => whnf) | ((with_reducible first | refine slc_e ?_ | refine callS_a ?_ | refine bld_a ?_ | refine own_e ?_ | refine mkmap_b ?_); conv => whnf) | (refine draw_i 30 plGL25t_4 (by decide +kernel) ?_; (conv => whnf); fail_if_success (guard_target =~ False)) | (refine draw_i 30 plGL25t_5 (by decide +kernel) ?_; (conv => whnf); fail_if_success (guard_target =~ False)) | (refine draw_i 12 plGL25t_6 (by decide +kernel) ?_; (conv => whnf); fail_if_success (guard_target =~ False)) | (refine draw_i 12 plGL25t_7 (by decide +kernel) ?_; (conv => whnf); fail_if_success (guard_target =~ False)) | ((with_reducible refine And.intro ?_ ?_) <;> (conv => whnf)) | (with_reducible exact trivial) | ((with_reducible first | refine branch_d (fun hq => ?_) (fun hq => ?_) | refine branch_e (fun hq => ?_) (fun hq => ?_) | refine branch_n (fun hq => ?_) (fun hq => ?_) | refine branch_i (fun hq => ?_) (fun hq => ?_)) <;> (try (exfalso; omega)) <;> (conv => whnf))))
        exact ret_p rfl rfl
end Go.Proofs.Ytpmoflggmdfmnaa
end

/- Layer 25: the examples of the chapter. -/
section
namespace Go.Proofs.Ytpmoflggmdfmnaa
set_option linter.unusedVariables false
set_option linter.unusedSimpArgs false
set_option linter.unnecessarySimpa false
set_option linter.unusedSectionVars false
set_option maxRecDepth 10000
open Go.RowKit
theorem allM_good {c : Int} (hc : 0 ≤ c ∧ c ≤ 60) {d : Int} (hd : -1 ≤ d ∧ d ≤ 99) {i : Int} (hi : 1 ≤ i ∧ i ≤ 99) : GoodMk ⟨i, d, 1, c, [0]⟩ := by
  refine ⟨hi, hd, by simp, hc, fun k x hx => ?_, fun k h0 hk => ?_, by simp⟩
  · have hm := List.mem_of_getElem? hx
    simp only [List.mem_cons, List.not_mem_nil, or_false] at hm
    subst hm; decide
  · simp at hk; omega
theorem allL_ok {c : Int} (hc : 0 ≤ c ∧ c ≤ 60) {n : Nat} (hn : n ≤ 9) : MksOk (allL c n) := by
  have hat : ∀ (k : Nat) (m : Mrk), (allL c n)[k]? = some m → k < n ∧ m = allM c k := fun k m h => by
    rw [allL, List.getElem?_map, Option.map_eq_some_iff] at h
    obtain ⟨j, hj, rfl⟩ := h
    obtain ⟨h1, h2⟩ := List.getElem?_eq_some_iff.1 hj
    simp at h1 h2; subst h2; exact ⟨h1, rfl⟩
  refine ⟨by simp [allL]; omega, fun k m h => ?_, fun i j a b hij ha hb => ?_⟩
  · obtain ⟨h1, rfl⟩ := hat k m h
    exact allM_good hc (by omega) (by omega)
  · obtain ⟨h1, rfl⟩ := hat i a ha
    obtain ⟨h2, rfl⟩ := hat j b hb
    show (1 + i : Int) < 1 + j; omega
theorem scrL_ok {c : Int} (hc : 0 ≤ c ∧ c ≤ 99) {n : Nat} (hn : n ≤ 9) : ScsOk (scrL c n) := by
  have hat : ∀ (k : Nat) (m : Scr), (scrL c n)[k]? = some m → k < n ∧ m = scrM c k := fun k m h => by
    rw [scrL, List.getElem?_map, Option.map_eq_some_iff] at h
    obtain ⟨j, hj, rfl⟩ := h
    obtain ⟨h1, h2⟩ := List.getElem?_eq_some_iff.1 hj
    simp at h1 h2; subst h2; exact ⟨h1, rfl⟩
  refine ⟨by simp [scrL]; omega, fun k m h => ?_, fun k a b ha hb => ?_⟩
  · obtain ⟨h1, rfl⟩ := hat k m h
    exact ⟨⟨rfl, by simp only [scrM]; omega, hc, by simp [scrM], by simp only [scrM]; omega⟩, by simp [scrM]⟩
  · obtain ⟨h1, rfl⟩ := hat k a ha
    obtain ⟨h2, rfl⟩ := hat (k + 1) b hb
    show (1 + k : Int) < 1 + (k + 1 : Nat); omega
def ownL : List Mrk := [⟨1, 5, 1, 9, [0]⟩]
theorem ownL_ok : MksOk ownL := by
  refine ⟨by decide, fun k m h => ?_, fun i j a b hij ha hb => ?_⟩
  · have hm := List.mem_of_getElem? h
    simp only [ownL, List.mem_cons, List.not_mem_nil, or_false] at hm
    subst hm; exact allM_good (by decide) (by decide) (by decide)
  · have h1 := (List.getElem?_eq_some_iff.1 ha).1
    have h2 := (List.getElem?_eq_some_iff.1 hb).1
    simp only [ownL, List.length_cons, List.length_nil] at h1 h2
    omega
theorem v1 : lstF (allL 9 3) (scrL 5 3) 2 = some 2 := by decide +kernel
theorem v2 : lstF ownL (scrL 5 2) 1 = none := by decide +kernel
theorem v3 : witP ownL (scrL 5 2) 1 = (some 0, (witP ownL (scrL 5 2) 1).2) ∧ setW ownL 0 (witP ownL (scrL 5 2) 1).2 2 = [0] := ⟨Prod.ext (by decide +kernel) rfl, by decide +kernel⟩
theorem v4 : witV ownL (scrL 5 2) 1 = .tup [ints [0], .bool true] := by
  rw [witV, if_pos (by decide), show (1 : Int).toNat = 1 from rfl, v3.1]
  show AV.tup [ints (setW ownL 0 (witP ownL (scrL 5 2) 1).2 2), .bool true] = _
  rw [v3.2]
theorem v5 : shortB ownL (scrL 5 2) 1 [1] = true := by decide +kernel
theorem v6 {F : Flw} (hU : Upto (elF (allL 9 3) (scrL 5 3)) (limF (capF (allL 9 3)) 2) 3 3 2 3 F) : loadF (tasksT (allL 9 3) (scrL 5 3) F.A 3) 1 = 2 := by
  have h0 : (allL 9 3)[0]? = some (allM 9 0) := rfl
  have e := (alloc_load (l := allL 9 3) (s := scrL 5 3) (allL_ok (by decide) (by decide)) hU h0).1
  have hm : ∀ m, m < 3 → colN 3 F.A m ≤ 2 := fun m hm => by
    have h1 := hU.wf.lim m hm
    rw [← hU.wf.col m hm] at h1
    simp only [limF] at h1; omega
  have hs : sumN 3 (fun i => rowN 3 F.A i) = sumN 3 (fun m => colN 3 F.A m) := sumN_comm
  have hr : sumN 3 (fun i => rowN 3 F.A i) = 6 := (sumN_const fun i hi => by rw [hU.row i hi, if_pos hi]).trans rfl
  have h2 : sumN 3 (fun m => colN 3 F.A m) = colN 3 F.A 0 + colN 3 F.A 1 + colN 3 F.A 2 := by simp [sumN]
  have a0 := hm 0 (by omega)
  have a1 := hm 1 (by omega)
  have a2 := hm 2 (by omega)
  refine e.trans ?_
  show colN 3 F.A 0 = 2
  omega
set_option maxHeartbeats 8000000 in
theorem sane_ok : Good Try.prog TT false 9 [] (· = .bool true) := by
  have hA := allL_ok (c := 9) (by decide) (n := 3) (by decide)
  have hS := scrL_ok (c := 5) (by decide) (n := 3) (by decide)
  have hS2 := scrL_ok (c := 5) (by decide) (n := 2) (by decide)
  have hO := ownL_ok
  refine good_of mixed tabOk Try.func9 rfl rfl Try.ntmps9 Try.results9 rfl rfl ?_
  (conv => whnf); (repeat' (first | (refine arith_i ⟨by omega, by omega⟩ ?_; conv => whnf) | (refine arith_u ⟨by omega, by omega⟩ ?_; conv => whnf) | (refine arith_8 ⟨by omega, by omega⟩ ?_; conv => whnf) | (refine need_i (by first | omega | (simp only [List.length_cons, List.length_nil]; omega) | (simp only [List.length_append, List.length_cons, List.length_nil, List.length_map, List.length_replicate, List.length_modify]; omega)) ?_; conv => whnf) | ((with_reducible first | refine branch_tt ?_ | refine branch_ff ?_); conv => whnf) | (with_reducible refine branch_not ?_) | ((refine call_e (all_ok 3 9 (by decide)) ?_); conv => whnf) | ((refine call_e (scripts25_ok 3 5 (by decide)) ?_); conv => whnf) | ((refine call_e ((least_ok (allL 9 3) (scrL 5 3) 2 hA hS).mono fun r h => h.trans (by rw [v1]; rfl : _ = AV.tup [.int .i64 2, .bool true])) ?_); conv => whnf) | (((refine call_i (allocate_ok (allL 9 3) (scrL 5 3) 2 hA hS) fun r hr => ?_; rcases hr with ⟨h1, -⟩ | ⟨h1, h2, -⟩ | ⟨a, F, h1, h2, hU, rfl⟩; (cases h1); (rw [v1] at h2; cases h2); (rw [v1] at h2; injection h2 with h2; subst h2; have hts : (List.map encT (tasksT (allL 9 3) (scrL 5 3) F.A (scrL 5 3).length)).length = 6 := by rw [List.length_map, alloc_len hU]; rfl))); conv => whnf) | ((refine call_e (all_ok 1 9 (by decide)) ?_); conv => whnf) | ((refine idx_ms (xs := allL 9 1) (x := allM 9 0) (by decide) rfl ?_); conv => whnf) | ((refine call_e (scripts25_ok 2 5 (by decide)) ?_); conv => whnf) | ((refine call_e ((least_ok ownL (scrL 5 2) 1 hO hS2).mono fun r h => h.trans (by rw [v2]; rfl : _ = AV.tup [.int .i64 0, .bool false])) ?_); conv => whnf) | ((refine call_e ((witness_ok ownL (scrL 5 2) 1 hO hS2).mono fun r h => h.trans v4) ?_); conv => whnf) | ((refine call_e ((aCheck_ok (allL 9 3) (scrL 5 3) 2 _ (by rw [List.length_map] at hts; omega) hA hS).mono fun r h => h.trans (int_eq (alloc_check (q := 2) hA hS (by decide) (by decide) hU))) ?_); conv => whnf) | ((refine call_e ((short_ok ownL (scrL 5 2) 1 [1] (by decide) hO hS2).mono fun r h => h.trans (bool_eq v5)) ?_); conv => whnf) | ((refine call_e ((load_ok _ 1 (by rw [List.length_map] at hts; omega)).mono fun r h => h.trans (int_eq (congrArg Int.ofNat (v6 hU)))) ?_); conv => whnf) | ((with_reducible first | refine slc_e ?_ | refine callS_a ?_ | refine bld_a ?_ | refine own_e ?_ | refine mkmap_b ?_); conv => whnf) | ((with_reducible first | refine branch_d (fun hq => ?_) (fun hq => ?_) | refine branch_e (fun hq => ?_) (fun hq => ?_) | refine branch_n (fun hq => ?_) (fun hq => ?_) | refine branch_i (fun hq => ?_) (fun hq => ?_)) <;> (try (exfalso; omega)) <;> (conv => whnf))))
  · exact ret_p rfl rfl
  · rename_i hq
    exact absurd (show (0 : Int) < ((List.map encI [0]).length : Int) by decide) hq
end Go.Proofs.Ytpmoflggmdfmnaa
end

/- From a contract of the interpreter to a law's call: any arguments; slices of strings. -/
section
namespace Go.Proofs.Ytpmoflggmdfmnaa
set_option linter.unusedVariables false
set_option linter.unusedSimpArgs false
set_option linter.unnecessarySimpa false
set_option linter.unusedSectionVars false
open Go.RowKit

theorem law_all {f : Nat} {args : List AV} (hG : Good Try.prog TT false f args (· = .bool true)) {w : World} {us : List Value} (h : All2 (RepV w No) args us) :
    Calls Try.prog f us.toArray w (fun e w' => e = .returned (.bool true) ∧ Chg No w w') := by
  have hx : ∀ b, GX (G0 none No (none, 0, 0)) b → False := fun b hb => by rcases hb with hb | hb <;> simp_all [GM, G0, No]
  refine Calls.mono (hG.2 w No none us (none, 0, 0) (fun b hb => absurd hb no_) rfl (h.mono fun v u hr => RC.ra (RepV.rc (RepV.move hr (fun _ _ _ => rfl) fun b _ hb => (hx b hb).elim))) nofun) ?_
  rintro e w' ⟨u, r, rfl, rfl, hr, hc, -⟩
  have hu : RepV w' (GX (G0 none No (none, 0, 0))) (.bool true) u := hr
  cases hu
  exact ⟨rfl, hc.mono fun b _ hb => by cases hb⟩
theorem ints_row {w : World} {a : Option Addr} {len cap : Nat} {zs : List Int} (h : Ints w No a len cap zs) : RepV w No (ints zs) (.slice a len cap) := ints_rep h
theorem ints_max {w : World} {a : Option Addr} {len cap : Nat} {zs : List Int} (h : Ints w No a len cap zs) (hc : cap ≤ maxLen) : zs.length ≤ 9223372036854775807 := by
  have h1 := h.len
  have h2 := h.cap
  have h3 : maxLen = 9223372036854775807 := rfl
  omega
end Go.Proofs.Ytpmoflggmdfmnaa
end

/- From a contract of the interpreter to a law's call: slices of structs whose fields are numbers. -/
section
namespace Go.Proofs.Ytpmoflggmdfmnaa
set_option linter.unusedVariables false
set_option linter.unusedSimpArgs false
open Go.RowKit Go.ChangeShapes Go.WideShapes Go.Deep

/-- A slice of structs with z numbers each: its elements. -/
def IsRecs (w : World) (z : Nat) (a : Option Addr) (len cap : Nat) (zs : List (List Int)) : Prop :=
  zs.length = len ∧ (∀ r ∈ zs, r.length = z) ∧ len ≤ cap ∧ len ≤ 9223372036854775807 ∧ (0 < len → ∃ x, a = some x ∧ ∀ i j r v, zs[i]? = some r → r[j]? = some v → w.cell? (x.add (i * z + j)) = some (.int .i64 v))
theorem recs_row {w : World} {z : Nat} {a : Option Addr} {len cap : Nat} {zs : List (List Int)} (hz : 0 < z) (h : IsRecs w z a len cap zs) : RepV w No (.lst z (zs.map fun r => r.map (AV.int .i64))) (.slice a len cap) := by
  obtain ⟨rfl, h1, h2, -, h3⟩ := h
  by_cases h0 : zs = []
  · subst h0; exact .nil z _ _
  · obtain ⟨x, rfl, hc⟩ := h3 (List.length_pos_iff.2 h0)
    obtain ⟨r0, hr0⟩ : ∃ r, zs[0]? = some r := ⟨_, List.getElem?_eq_getElem (List.length_pos_iff.2 h0)⟩
    obtain ⟨v0, hv0⟩ : ∃ v, r0[0]? = some v := ⟨_, List.getElem?_eq_getElem (by rw [h1 r0 (List.mem_of_getElem? hr0)]; exact hz)⟩
    have h00 := hc 0 0 r0 v0 hr0 hv0
    rw [Nat.zero_mul, Nat.add_zero, show x.add 0 = x by simp [Addr.add]] at h00
    have hs := spot_of_cell h00
    obtain ⟨b, off, sp⟩ := x
    simp only at hs
    subst hs
    have hb := World.block_lt_of_cell? w _ h00
    have key := RepV.lst (w := w) (X := No) (z := z) (es := zs.map fun r => r.map (AV.int .i64)) (b := b) (off := off) (c := cap) (fun i j => .int .i64 (((zs[i]?).bind (·[j]?)).getD 0)) (by simpa using h0) (by simpa using h2) hb no_ (fun cs hcs => by
      obtain ⟨r, hr, rfl⟩ := List.mem_map.1 hcs
      simpa using h1 r hr) (fun i j d hd => ?_) (fun i j d hd => ?_)
    · rwa [List.length_map] at key
    all_goals
      obtain ⟨ds, k1, k2⟩ := at2_some hd
      rw [List.getElem?_map, Option.map_eq_some_iff] at k1
      obtain ⟨r, hr, rfl⟩ := k1
      rw [List.getElem?_map, Option.map_eq_some_iff] at k2
      obtain ⟨v, hv, rfl⟩ := k2
      simp only [hr, hv, Option.bind_some, Option.getD_some]
      first
        | exact RepV.int _ _
        | (have := hc i j r v hr hv
           rw [add_none] at this
           rw [Nat.add_assoc]; exact this)
def numOf : Value → Int
  | .int _ v => v
  | _ => 0
section
variable {H : Type} {enc : TypeId × Value → H} {P : Program} {w : World} {base : Nat} {spare : Nat → Bool} {held : Bool}
/-- An argument that is a slice of structs of numbers. -/
theorem open_recs {t e : TypeId} {fs : Array Field} {fuel : Nat} {A : Option Addr} {len cap : Nat} {x : DataW H × List MemPlace} (ht : P.underlying t = some (.slice e)) (he : P.underlying e = some (.struct fs)) (hC : P.cellsOf e = fs.size)
    (hint : ∀ (j : Nat) (f : Field), fs[j]? = some f → P.underlying f.type = some (.int .i64) ∧ f.offset = j ∧ P.cellsOf f.type = 1) (h : DataW.trod enc P w base spare held fuel t [.slice A len cap] = some x) : ∃ zs, IsRecs w fs.size A len cap zs := by
  rcases open_slice ht h with ⟨h0, -⟩ | ⟨a, len', cap', m, n, D, Pl, hcs, hb, hl, hm, hmm, hx, hi⟩
  · simp at h0
    obtain ⟨rfl, rfl, rfl⟩ := h0
    exact ⟨[], rfl, by simp, Nat.le_refl _, by omega, fun h => by omega⟩
  · simp at hcs
    obtain ⟨rfl, rfl, rfl⟩ := hcs
    have hle : len ≤ m := by rw [hmm]; split <;> omega
    have key : ∀ i, i < len → ∃ r : List Int, r.length = fs.size ∧ ∀ j v, r[j]? = some v → w.cell? (a.add (i * fs.size + j)) = some (.int .i64 v) := fun i hil => by
      obtain ⟨cs', hc, ht'⟩ := hi i (by omega)
      rw [hC] at hc
      obtain ⟨ys, n', hn', hy, hlen, hyl, hf⟩ := DataW.trod_struct he ht'
      obtain ⟨_, hcl, hat⟩ := World.cells?_some hc
      have each : ∀ j, j < fs.size → ∃ v : Int, cs'[j]? = some (.int .i64 v) := fun j hj => by
        obtain ⟨f, hfj⟩ : ∃ f, fs[j]? = some f := ⟨_, Array.getElem?_eq_getElem hj⟩
        obtain ⟨q1, q2, q3⟩ := hint j f hfj
        have h1 := hf j f hfj
        rw [q2, q3] at h1
        have hone' : (cs'.drop j).take 1 = [cs'[j]'(by omega)] := by
          rw [List.drop_eq_getElem_cons (by omega)]; rfl
        rw [hone', List.getElem?_eq_getElem (by omega)] at h1
        obtain ⟨v, hv, -⟩ := DataW.trod_int q1 h1
        exact ⟨v, by rw [List.getElem?_eq_getElem (by omega)]; simpa using hv⟩
      refine ⟨(List.range fs.size).map fun j => numOf ((cs'[j]?).getD Go.undef), by simp, fun j v hv => ?_⟩
      rw [List.getElem?_map, Option.map_eq_some_iff] at hv
      obtain ⟨j', hj', hv⟩ := hv
      have hjl : j < fs.size := by have := (List.getElem?_eq_some_iff.1 hj').1; simpa using this
      rw [List.getElem?_range hjl] at hj'
      injection hj' with hj'
      subst hj'
      obtain ⟨v', hv'⟩ := each j hjl
      rw [hv'] at hv
      simp only [Option.getD_some, numOf] at hv
      subst hv
      rw [← Go.Deep.add_add, hat j hjl, hv']
    refine ⟨(List.range len).map fun i => if hil : i < len then Classical.choose (key i hil) else [], by simp, fun r hr => ?_, hl, by have h3 : maxLen = 9223372036854775807 := rfl; omega, fun _ => ⟨a, rfl, fun i j r v hr hv => ?_⟩⟩
    · obtain ⟨i, hil, rfl⟩ := List.mem_map.1 hr
      rw [dif_pos (List.mem_range.1 hil)]
      exact (Classical.choose_spec (key i (List.mem_range.1 hil))).1
    · rw [List.getElem?_map, Option.map_eq_some_iff] at hr
      obtain ⟨i', hi', hr⟩ := hr
      have hil : i < len := by have := (List.getElem?_eq_some_iff.1 hi').1; simpa using this
      rw [List.getElem?_range hil] at hi'
      injection hi' with hi'
      subst hi'
      rw [dif_pos hil] at hr
      subst hr
      exact (Classical.choose_spec (key i hil)).2 j v hv
end
end Go.Proofs.Ytpmoflggmdfmnaa
end

/- Tasks as a parameter of a law. -/
section
namespace Go.Proofs.Ytpmoflggmdfmnaa
set_option linter.unusedVariables false
set_option linter.unusedSimpArgs false
open Go.RowKit
def tskOf (r : List Int) : Int × Int := (r.getD 0 0, r.getD 1 0)
theorem tskOf_enc {r : List Int} (h : r.length = 2) : r.map (AV.int .i64) = encT (tskOf r) := by
  match r, h with
  | [a, b], _ => rfl
theorem tasks_row {w : World} {a : Option Addr} {len cap : Nat} {zs : List (List Int)} (h : IsRecs w 2 a len cap zs) : RepV w No (tasksV (zs.map tskOf)) (.slice a len cap) := by
  have e : (zs.map fun r => r.map (AV.int .i64)) = (zs.map tskOf).map encT := by
    rw [List.map_map]
    exact List.map_congr_left fun r hr => tskOf_enc (h.2.1 r hr)
  have := recs_row (by omega) h
  rw [e] at this
  exact this
theorem tasks_max {w : World} {a : Option Addr} {len cap : Nat} {zs : List (List Int)} (h : IsRecs w 2 a len cap zs) : (zs.map tskOf).length ≤ 9223372036854775807 := by
  rw [List.length_map, h.1]; exact h.2.2.2.1
theorem i64_in {a : Int} (h : (Lit.int .i64 a).wf = true) : -9223372036854775808 ≤ a ∧ a ≤ 9223372036854775807 := by
  simp [Lit.wf, IntKind.min, IntKind.max, IntKind.bits, IntKind.signed] at h
  omega
end Go.Proofs.Ytpmoflggmdfmnaa
end
