/- Several texts in one: GL25h, GL25i, GL26n, GL26o, GBrM. -/
import Derived.Test.YtpmoflggmdfmnaaH2
import Derived.Test.YtpmoflggmdfmnaaH5
import Derived.Test.YtpmoflggmdfmnaaH1
import Derived.Test.YtpmoflggmdfmnaaFrame
/- Layer 25: assignments of the reference: start, fill, Least, Allocate. -/
section
namespace Go.Proofs.Ytpmoflggmdfmnaa
set_option linter.unusedVariables false
set_option linter.unusedSimpArgs false
set_option linter.unnecessarySimpa false
set_option linter.unusedSectionVars false
set_option maxRecDepth 10000
open Go.RowKit
def plGL25h_0 : Plan := (.take 0 (.take 1 (.take 2 (.take 3 (.take 4 (.take 5 (.take 6 (.alt 7 (.alt 8 (.alt 9 (.take 10 (.take 11 (.alt 12 .done .stop))) .stop) .stop) .stop))))))))
def plGL25h_1 : Plan := (.take 0 (.take 1 (.take 2 (.take 3 (.take 5 (.take 6 (.alt 4 (.alt 7 (.alt 8 (.alt 9 (.take 10 (.take 11 (.alt 12 .done .stop))) .stop) .stop) .stop) (.alt 7 (.alt 4 (.alt 8 (.alt 9 (.take 10 (.take 11 (.alt 12 .done .stop))) .stop) .stop) (.alt 8 (.alt 4 (.alt 9 (.take 10 (.take 11 (.alt 12 .done .stop))) .stop) .stop) .stop)) .stop))))))))
def plGL25h_2 : Plan := (.take 0 (.take 1 (.take 2 (.take 3 (.take 4 (.take 5 (.take 6 (.take 7 (.take 8 (.take 9 (.take 10 (.take 11 (.alt 12 (.alt 13 (.take 14 (.take 15 (.alt 16 .done .stop))) .stop) .stop)))))))))))))
def plGL25h_3 : Plan := (.take 0 (.take 1 (.take 2 (.take 3 (.take 4 (.take 5 (.take 6 (.take 7 (.take 8 (.take 10 (.alt 9 (.take 11 (.alt 12 (.alt 13 (.take 14 (.take 15 (.alt 16 .done .stop))) .stop) .stop)) .stop)))))))))))
def plGL25h_4 : Plan := (.take 0 (.take 1 (.take 2 (.take 3 (.take 5 (.take 6 (.take 7 (.take 8 (.take 10 (.alt 4 (.alt 9 (.take 11 (.alt 12 (.alt 13 (.take 14 (.take 15 (.alt 16 .done .stop))) .stop) .stop)) .stop) (.alt 9 (.take 11 (.alt 4 (.alt 12 (.alt 13 (.take 14 (.take 15 (.alt 16 .done .stop))) .stop) .stop) (.alt 12 (.alt 4 (.alt 13 (.take 14 (.take 15 (.alt 16 .done .stop))) .stop) .stop) .stop))) .stop)))))))))))
def rflowG (t1 t2 : Nat) (l : List Mrk) (s : List Scr) (lim : Nat → Nat) (f : Flw) : List AV := [mrksV l, scrsV s, .mat t1 111 4 1 (rowsC s.length l.length f.A), .own t2 3 1 (nsL l.length f.ld), .lst 1 (nsL l.length lim)]
theorem st_box {a a' : List (Option (List (List AV)))} {b b' c c' : List (List AV)} {x y : AV} {t e e2 z2 t2 e3 t3 e4 : Nat} (h1 : a = a') (h2 : b' = b) (h3 : c' = c) : some [x, y, AV.mat t e e2 z2 a, AV.own t2 e3 1 b, AV.own t3 e4 1 c] = some [x, y, AV.mat t e e2 z2 a', AV.own t2 e3 1 b', AV.own t3 e4 1 c'] := by rw [h1, h2, h3]
set_option maxHeartbeats 4000000 in
theorem start_ok (l : List Mrk) (s : List Scr) (most : Nat) (hl : MksOk l) (hs : ScsOk s) (hm : most ≤ 60) :
    GoodM Try.prog TT false 59 [mrksV l, scrsV s, .int .i64 most] [] (fun r ov bx => r = .ptr 12 0 ∧ ov = [] ∧ bx = [(12, rflowG 901 902 l s (limF (capF l) most) flw0)]) := by
  have LL : (l.map encM).length = l.length := List.length_map ..
  have LS : (s.map encR).length = s.length := List.length_map ..
  have h16 := hl.len
  have h60 := hs.len
  have e0 : ((s.map encR).length : Int).toNat = s.length := by rw [LS]; simp
  refine good_of_m (fun _ => false) mixed tabOk Try.func59 rfl rfl Try.ntmps59 Try.results59 rfl rfl ?_
  (conv => whnf); (repeat' (first | (refine arith_i ⟨by omega, by omega⟩ ?_; conv => whnf) | (refine arith_u ⟨by omega, by omega⟩ ?_; conv => whnf) | (refine arith_8 ⟨by omega, by omega⟩ ?_; conv => whnf) | (refine need_i (by first | omega | (simp only [List.length_cons, List.length_nil]; omega) | (simp only [List.length_append, List.length_cons, List.length_nil, List.length_map, List.length_replicate, List.length_modify]; omega)) ?_; conv => whnf) | ((with_reducible refine branch_tt ?_); conv => whnf) | ((with_reducible refine branch_ff ?_); conv => whnf) | (with_reducible refine branch_not ?_) | ((with_reducible refine slc_e ?_); conv => whnf) | ((with_reducible refine callS_a ?_); conv => whnf) | ((with_reducible refine bld_a ?_); conv => whnf) | ((with_reducible refine own_e ?_); conv => whnf) | ((with_reducible refine mkmap_b ?_); conv => whnf) | (refine draw_i 10 plGL25h_0 (by decide +kernel) ?_; (conv => whnf); fail_if_success (guard_target =~ False)) | (refine draw_i 10 plGL25h_1 (by decide +kernel) ?_; (conv => whnf); fail_if_success (guard_target =~ False)) | (refine draw_i 14 plGL25h_2 (by decide +kernel) ?_; (conv => whnf); fail_if_success (guard_target =~ False)) | (refine draw_i 14 plGL25h_3 (by decide +kernel) ?_; (conv => whnf); fail_if_success (guard_target =~ False)) | (refine draw_i 14 plGL25h_4 (by decide +kernel) ?_; (conv => whnf); fail_if_success (guard_target =~ False)) | ((with_reducible refine And.intro ?_ ?_) <;> (conv => whnf)) | (with_reducible exact trivial) | ((with_reducible refine branch_d (fun hq => ?_) (fun hq => ?_)) <;> (try (exfalso; omega)) <;> (conv => whnf)) | ((with_reducible refine branch_e (fun hq => ?_) (fun hq => ?_)) <;> (try (exfalso; omega)) <;> (conv => whnf)) | ((with_reducible refine branch_n (fun hq => ?_) (fun hq => ?_)) <;> (try (exfalso; omega)) <;> (conv => whnf)) | ((with_reducible refine branch_i (fun hq => ?_) (fun hq => ?_)) <;> (try (exfalso; omega)) <;> (conv => whnf))))
  refine loop_i (fun i : Nat => i ≤ l.length) (fun i => mkSt [(0, mrksV l), (1, scrsV s), (2, .int .i64 most), (7, .ptr 12 0), (8, .int .i64 i)] [(12, [mrksV l, scrsV s, .mat 901 111 4 1 (rowsM i s.length fun _ _ => false), .own 902 3 1 (nsL i fun _ => 0), .own 903 3 1 (nsL i (limF (capF l) most))])] false) (fun i => l.length - i) 0 (Nat.zero_le _) (Le.trans (le_adoptBox 12 2 901 111 1 rfl rfl) (Le.trans (le_toMatBox 12 2 901 111 4 1 rfl rfl) (Le.trans (le_adoptBox 12 3 902 3 1 rfl rfl) (Le.trans (le_adoptBox 12 4 903 3 1 rfl rfl) (le_mk (by repeat' (first | exact trivial | rfl | apply And.intro)) (by repeat' (first | exact trivial | rfl | apply And.intro)) rfl))))) ?_
  intro i hi
  have L1 : (rowsM i s.length fun _ _ => false).length = i := rowsM_len
  have L2 : (nsL i fun _ => 0).length = i := nsL_len
  have L3 : (nsL i (limF (capF l) most)).length = i := nsL_len
  rcases Nat.lt_or_ge i l.length with hil | hil
  · obtain ⟨m, hm'⟩ : ∃ m, l[i]? = some m := ⟨_, List.getElem?_eq_getElem hil⟩
    have hcap := (hl.all i m hm').cap
    (conv => whnf); (repeat' (first | (refine arith_i ⟨by omega, by omega⟩ ?_; conv => whnf) | (refine arith_u ⟨by omega, by omega⟩ ?_; conv => whnf) | (refine arith_8 ⟨by omega, by omega⟩ ?_; conv => whnf) | (refine need_i (by first | omega | (simp only [List.length_cons, List.length_nil]; omega) | (simp only [List.length_append, List.length_cons, List.length_nil, List.length_map, List.length_replicate, List.length_modify]; omega)) ?_; conv => whnf) | ((with_reducible refine branch_tt ?_); conv => whnf) | ((with_reducible refine branch_ff ?_); conv => whnf) | (with_reducible refine branch_not ?_) | ((refine idx_cs hm' ?_); conv => whnf) | ((refine need_i (by omega) ?_); conv => whnf) | ((refine bld_m ?_); conv => whnf) | ((with_reducible refine slc_e ?_); conv => whnf) | ((with_reducible refine callS_a ?_); conv => whnf) | ((with_reducible refine bld_a ?_); conv => whnf) | ((with_reducible refine own_e ?_); conv => whnf) | ((with_reducible refine mkmap_b ?_); conv => whnf) | (refine draw_i 10 plGL25h_0 (by decide +kernel) ?_; (conv => whnf); fail_if_success (guard_target =~ False)) | (refine draw_i 10 plGL25h_1 (by decide +kernel) ?_; (conv => whnf); fail_if_success (guard_target =~ False)) | (refine draw_i 14 plGL25h_2 (by decide +kernel) ?_; (conv => whnf); fail_if_success (guard_target =~ False)) | (refine draw_i 14 plGL25h_3 (by decide +kernel) ?_; (conv => whnf); fail_if_success (guard_target =~ False)) | (refine draw_i 14 plGL25h_4 (by decide +kernel) ?_; (conv => whnf); fail_if_success (guard_target =~ False)) | ((with_reducible refine And.intro ?_ ?_) <;> (conv => whnf)) | (with_reducible exact trivial) | ((with_reducible refine branch_d (fun hq => ?_) (fun hq => ?_)) <;> (try (exfalso; omega)) <;> (conv => whnf)) | ((with_reducible refine branch_e (fun hq => ?_) (fun hq => ?_)) <;> (try (exfalso; omega)) <;> (conv => whnf)) | ((with_reducible refine branch_n (fun hq => ?_) (fun hq => ?_)) <;> (try (exfalso; omega)) <;> (conv => whnf)) | ((with_reducible refine branch_i (fun hq => ?_) (fun hq => ?_)) <;> (try (exfalso; omega)) <;> (conv => whnf))))
    exact ⟨i + 1, by omega, le_mk ⟨rfl, rfl, rfl, rfl, rfl, trivial⟩ ⟨st_box (by rw [e0, bs_false, rows_next]) (by rw [ns_next]; rfl) (by rw [ns_next, lim_at hm' hcap.1]), trivial⟩ rfl, by omega⟩
  · obtain rfl : i = l.length := by omega
    (conv => whnf); (repeat' (first | (refine arith_i ⟨by omega, by omega⟩ ?_; conv => whnf) | (refine arith_u ⟨by omega, by omega⟩ ?_; conv => whnf) | (refine arith_8 ⟨by omega, by omega⟩ ?_; conv => whnf) | (refine need_i (by first | omega | (simp only [List.length_cons, List.length_nil]; omega) | (simp only [List.length_append, List.length_cons, List.length_nil, List.length_map, List.length_replicate, List.length_modify]; omega)) ?_; conv => whnf) | ((with_reducible refine branch_tt ?_); conv => whnf) | ((with_reducible refine branch_ff ?_); conv => whnf) | (with_reducible refine branch_not ?_) | ((with_reducible refine slc_e ?_); conv => whnf) | ((with_reducible refine callS_a ?_); conv => whnf) | ((with_reducible refine bld_a ?_); conv => whnf) | ((with_reducible refine own_e ?_); conv => whnf) | ((with_reducible refine mkmap_b ?_); conv => whnf) | (refine draw_i 10 plGL25h_0 (by decide +kernel) ?_; (conv => whnf); fail_if_success (guard_target =~ False)) | (refine draw_i 10 plGL25h_1 (by decide +kernel) ?_; (conv => whnf); fail_if_success (guard_target =~ False)) | (refine draw_i 14 plGL25h_2 (by decide +kernel) ?_; (conv => whnf); fail_if_success (guard_target =~ False)) | (refine draw_i 14 plGL25h_3 (by decide +kernel) ?_; (conv => whnf); fail_if_success (guard_target =~ False)) | (refine draw_i 14 plGL25h_4 (by decide +kernel) ?_; (conv => whnf); fail_if_success (guard_target =~ False)) | ((with_reducible refine And.intro ?_ ?_) <;> (conv => whnf)) | (with_reducible exact trivial) | ((with_reducible refine branch_d (fun hq => ?_) (fun hq => ?_)) <;> (try (exfalso; omega)) <;> (conv => whnf)) | ((with_reducible refine branch_e (fun hq => ?_) (fun hq => ?_)) <;> (try (exfalso; omega)) <;> (conv => whnf)) | ((with_reducible refine branch_n (fun hq => ?_) (fun hq => ?_)) <;> (try (exfalso; omega)) <;> (conv => whnf)) | ((with_reducible refine branch_i (fun hq => ?_) (fun hq => ?_)) <;> (try (exfalso; omega)) <;> (conv => whnf))))
    exact retM_i _ [] [(12, rflowG 901 902 l s (limF (capF l) most) flw0)] rfl (Le.trans (le_erase 903) (le_mk (by repeat' (first | exact trivial | rfl | apply And.intro)) (by repeat' (first | exact trivial | rfl | apply And.intro)) rfl)) rfl ⟨rfl, rfl, rfl⟩
theorem call_args {a b : AV} {v v' : List (List AV)} {t e : Nat} (h : v = v') : [a, b, AV.own t e 1 v] ++ [] = [a, b, AV.own t e 1 v'] := by rw [h]; rfl
def RFillR (l : List Mrk) (s : List Scr) (lim : Nat → Nat) (p : Option Nat × Flw) (r : AV) (ov : List (Nat × AV)) (bx : List (Nat × List AV)) : Prop :=
  ov = [] ∧ bx = [(1000, rflowC l s lim p.2)] ∧ ((p.1 = none ∧ r = .tup [.int .i64 0, .bool true]) ∨ ∃ i, p.1 = some i ∧ r = .tup [.int .i64 (i : Nat), .bool false])
set_option maxHeartbeats 4000000 in
theorem rFill_ok (l : List Mrk) (s : List Scr) (lim : Nat → Nat) (hl : MksOk l) (hs : ScsOk s) (hlim : ∀ m, m < l.length → lim m ≤ 1000) (r : Nat) (hr : r ≤ 2) (s0 : Flw) (hw : WF (elF l s) lim s.length l.length s0) :
    GoodM Try.prog TT false 60 [.ptr 1000 0, .int .i64 r] [(1000, rflowC l s lim s0)] (RFillR l s lim (fillF (elF l s) lim s.length l.length r (List.range s.length) s0)) := by
  have LL : (l.map encM).length = l.length := List.length_map ..
  have LS : (s.map encR).length = s.length := List.length_map ..
  have h16 := hl.len
  have h60 := hs.len
  have e0 : ((l.map encM).length : Int).toNat = l.length := by rw [LL]; simp
  refine good_of_m (fun _ => false) mixed tabOk Try.func60 rfl rfl Try.ntmps60 Try.results60 rfl rfl ?_
  (conv => whnf); (repeat' (first | (refine arith_i ⟨by omega, by omega⟩ ?_; conv => whnf) | (refine arith_u ⟨by omega, by omega⟩ ?_; conv => whnf) | (refine arith_8 ⟨by omega, by omega⟩ ?_; conv => whnf) | (refine need_i (by first | omega | (simp only [List.length_cons, List.length_nil]; omega) | (simp only [List.length_append, List.length_cons, List.length_nil, List.length_map, List.length_replicate, List.length_modify]; omega)) ?_; conv => whnf) | ((with_reducible refine branch_tt ?_); conv => whnf) | ((with_reducible refine branch_ff ?_); conv => whnf) | (with_reducible refine branch_not ?_) | ((with_reducible refine slc_e ?_); conv => whnf) | ((with_reducible refine callS_a ?_); conv => whnf) | ((with_reducible refine bld_a ?_); conv => whnf) | ((with_reducible refine own_e ?_); conv => whnf) | ((with_reducible refine mkmap_b ?_); conv => whnf) | ((with_reducible refine branch_d (fun hq => ?_) (fun hq => ?_)) <;> (try (exfalso; omega)) <;> (conv => whnf)) | ((with_reducible refine branch_e (fun hq => ?_) (fun hq => ?_)) <;> (try (exfalso; omega)) <;> (conv => whnf)) | ((with_reducible refine branch_n (fun hq => ?_) (fun hq => ?_)) <;> (try (exfalso; omega)) <;> (conv => whnf)) | ((with_reducible refine branch_i (fun hq => ?_) (fun hq => ?_)) <;> (try (exfalso; omega)) <;> (conv => whnf))))
  refine loop_i2 (fun (i : Nat) (F : Flw) => i ≤ s.length ∧ WF (elF l s) lim s.length l.length F ∧ fillF (elF l s) lim s.length l.length r (List.range s.length) s0 = fillF (elF l s) lim s.length l.length r ((List.range s.length).drop i) F) (fun i F => mkSt [(0, .ptr 1000 0), (1, .int .i64 r), (6, .int .i64 i)] [(1000, rflowC l s lim F)] false) (fun i _ => s.length - i) 0 s0 ⟨Nat.zero_le _, hw, rfl⟩ (le_mk (by repeat' (first | exact trivial | rfl | apply And.intro)) (by repeat' (first | exact trivial | rfl | apply And.intro)) rfl) ?_
  rintro i F ⟨hi, hws, hF⟩
  rcases Nat.lt_or_ge i s.length with hin | hin
  · rw [List.drop_eq_getElem_cons (by simpa using hin), List.getElem_range] at hF
    (conv => whnf); (repeat' (first | (refine arith_i ⟨by omega, by omega⟩ ?_; conv => whnf) | (refine arith_u ⟨by omega, by omega⟩ ?_; conv => whnf) | (refine arith_8 ⟨by omega, by omega⟩ ?_; conv => whnf) | (refine need_i (by first | omega | (simp only [List.length_cons, List.length_nil]; omega) | (simp only [List.length_append, List.length_cons, List.length_nil, List.length_map, List.length_replicate, List.length_modify]; omega)) ?_; conv => whnf) | ((with_reducible refine branch_tt ?_); conv => whnf) | ((with_reducible refine branch_ff ?_); conv => whnf) | (with_reducible refine branch_not ?_) | ((with_reducible refine slc_e ?_); conv => whnf) | ((with_reducible refine callS_a ?_); conv => whnf) | ((with_reducible refine bld_a ?_); conv => whnf) | ((with_reducible refine own_e ?_); conv => whnf) | ((with_reducible refine mkmap_b ?_); conv => whnf) | ((with_reducible refine branch_d (fun hq => ?_) (fun hq => ?_)) <;> (try (exfalso; omega)) <;> (conv => whnf)) | ((with_reducible refine branch_e (fun hq => ?_) (fun hq => ?_)) <;> (try (exfalso; omega)) <;> (conv => whnf)) | ((with_reducible refine branch_n (fun hq => ?_) (fun hq => ?_)) <;> (try (exfalso; omega)) <;> (conv => whnf)) | ((with_reducible refine branch_i (fun hq => ?_) (fun hq => ?_)) <;> (try (exfalso; omega)) <;> (conv => whnf))))
    refine loop_i2 (fun (q : Nat) (s' : Flw) => q ≤ r ∧ WF (elF l s) lim s.length l.length s' ∧ roundsF (elF l s) lim s.length l.length i r F = roundsF (elF l s) lim s.length l.length i (r - q) s') (fun q s' => mkSt [(0, .ptr 1000 0), (1, .int .i64 r), (6, .int .i64 i), (7, .int .i64 q)] [(1000, rflowC l s lim s')] false) (fun q _ => r - q) 0 F ⟨Nat.zero_le _, hws, rfl⟩ (le_mk (by repeat' (first | exact trivial | rfl | apply And.intro)) (by repeat' (first | exact trivial | rfl | apply And.intro)) rfl) ?_
    rintro q s' ⟨hq1, hw', hR⟩
    rcases Nat.lt_or_ge q r with hqr | hqr
    · rw [show r - q = (r - (q + 1)) + 1 by omega] at hR
      have hG := give_ok l s lim hl hs hlim l.length i ⟨s'.A, s'.ld, fun _ => false⟩ hin (Nat.le_of_eq (unv_none fun _ => rfl)) hw'.lim
      (conv => whnf); (repeat' (first | (refine arith_i ⟨by omega, by omega⟩ ?_; conv => whnf) | (refine arith_u ⟨by omega, by omega⟩ ?_; conv => whnf) | (refine arith_8 ⟨by omega, by omega⟩ ?_; conv => whnf) | (refine need_i (by first | omega | (simp only [List.length_cons, List.length_nil]; omega) | (simp only [List.length_append, List.length_cons, List.length_nil, List.length_map, List.length_replicate, List.length_modify]; omega)) ?_; conv => whnf) | ((with_reducible refine branch_tt ?_); conv => whnf) | ((with_reducible refine branch_ff ?_); conv => whnf) | (with_reducible refine branch_not ?_) | ((refine need_i (by omega) ?_); conv => whnf) | ((refine mcall_e [(1000, 1000)] [(1101, 1101), (1102, 1102), (1104, 29)] hG rfl (call_args (by rw [e0, bs_false])) rfl ⟨⟨_, rfl, rfl, rfl⟩, trivial⟩ rfl ?_); conv => whnf) | ((with_reducible refine slc_e ?_); conv => whnf) | ((with_reducible refine callS_a ?_); conv => whnf) | ((with_reducible refine bld_a ?_); conv => whnf) | ((with_reducible refine own_e ?_); conv => whnf) | ((with_reducible refine mkmap_b ?_); conv => whnf) | ((with_reducible refine branch_d (fun hq => ?_) (fun hq => ?_)) <;> (try (exfalso; omega)) <;> (conv => whnf)) | ((with_reducible refine branch_e (fun hq => ?_) (fun hq => ?_)) <;> (try (exfalso; omega)) <;> (conv => whnf)) | ((with_reducible refine branch_n (fun hq => ?_) (fun hq => ?_)) <;> (try (exfalso; omega)) <;> (conv => whnf)) | ((with_reducible refine branch_i (fun hq => ?_) (fun hq => ?_)) <;> (try (exfalso; omega)) <;> (conv => whnf))))
      · have e : augF (elF l s) lim s.length l.length i s' = (true, (augF (elF l s) lim s.length l.length i s').2) := Prod.ext hq rfl
        rw [rounds_yes (show (augF (elF l s) lim s.length l.length i s').1 = true from hq)] at hR
        exact ⟨q + 1, (augF (elF l s) lim s.length l.length i s').2, ⟨by omega, (aug_won hin hw' e).1, hR⟩, (le_mk (by repeat' (first | exact trivial | rfl | apply And.intro)) (by repeat' (first | exact trivial | rfl | apply And.intro)) rfl), by omega⟩
      · rw [rounds_no (show (augF (elF l s) lim s.length l.length i s').1 = false from hq)] at hR
        have e : fillF (elF l s) lim s.length l.length r (List.range s.length) s0 = (some i, (augF (elF l s) lim s.length l.length i s').2) := by rw [hF, fillF, hR]
        exact retM_i _ [] [(1000, rflowC l s lim (augF (elF l s) lim s.length l.length i s').2)] rfl (le_mk (by repeat' (first | exact trivial | rfl | apply And.intro)) (by repeat' (first | exact trivial | rfl | apply And.intro)) rfl) rfl ⟨rfl, by rw [e], .inr ⟨i, by rw [e], rfl⟩⟩
    · rw [show r - q = 0 by omega, roundsF] at hR
      (conv => whnf); (repeat' (first | (refine arith_i ⟨by omega, by omega⟩ ?_; conv => whnf) | (refine arith_u ⟨by omega, by omega⟩ ?_; conv => whnf) | (refine arith_8 ⟨by omega, by omega⟩ ?_; conv => whnf) | (refine need_i (by first | omega | (simp only [List.length_cons, List.length_nil]; omega) | (simp only [List.length_append, List.length_cons, List.length_nil, List.length_map, List.length_replicate, List.length_modify]; omega)) ?_; conv => whnf) | ((with_reducible refine branch_tt ?_); conv => whnf) | ((with_reducible refine branch_ff ?_); conv => whnf) | (with_reducible refine branch_not ?_) | ((with_reducible refine slc_e ?_); conv => whnf) | ((with_reducible refine callS_a ?_); conv => whnf) | ((with_reducible refine bld_a ?_); conv => whnf) | ((with_reducible refine own_e ?_); conv => whnf) | ((with_reducible refine mkmap_b ?_); conv => whnf) | ((with_reducible refine branch_d (fun hq => ?_) (fun hq => ?_)) <;> (try (exfalso; omega)) <;> (conv => whnf)) | ((with_reducible refine branch_e (fun hq => ?_) (fun hq => ?_)) <;> (try (exfalso; omega)) <;> (conv => whnf)) | ((with_reducible refine branch_n (fun hq => ?_) (fun hq => ?_)) <;> (try (exfalso; omega)) <;> (conv => whnf)) | ((with_reducible refine branch_i (fun hq => ?_) (fun hq => ?_)) <;> (try (exfalso; omega)) <;> (conv => whnf))))
      exact ⟨i + 1, s', ⟨by omega, hw', by rw [hF, fillF, hR]⟩, (le_mk (by repeat' (first | exact trivial | rfl | apply And.intro)) (by repeat' (first | exact trivial | rfl | apply And.intro)) rfl), by omega⟩
  · rw [List.drop_eq_nil_of_le (by simpa using hin), fillF] at hF
    (conv => whnf); (repeat' (first | (refine arith_i ⟨by omega, by omega⟩ ?_; conv => whnf) | (refine arith_u ⟨by omega, by omega⟩ ?_; conv => whnf) | (refine arith_8 ⟨by omega, by omega⟩ ?_; conv => whnf) | (refine need_i (by first | omega | (simp only [List.length_cons, List.length_nil]; omega) | (simp only [List.length_append, List.length_cons, List.length_nil, List.length_map, List.length_replicate, List.length_modify]; omega)) ?_; conv => whnf) | ((with_reducible refine branch_tt ?_); conv => whnf) | ((with_reducible refine branch_ff ?_); conv => whnf) | (with_reducible refine branch_not ?_) | ((with_reducible refine slc_e ?_); conv => whnf) | ((with_reducible refine callS_a ?_); conv => whnf) | ((with_reducible refine bld_a ?_); conv => whnf) | ((with_reducible refine own_e ?_); conv => whnf) | ((with_reducible refine mkmap_b ?_); conv => whnf) | ((with_reducible refine branch_d (fun hq => ?_) (fun hq => ?_)) <;> (try (exfalso; omega)) <;> (conv => whnf)) | ((with_reducible refine branch_e (fun hq => ?_) (fun hq => ?_)) <;> (try (exfalso; omega)) <;> (conv => whnf)) | ((with_reducible refine branch_n (fun hq => ?_) (fun hq => ?_)) <;> (try (exfalso; omega)) <;> (conv => whnf)) | ((with_reducible refine branch_i (fun hq => ?_) (fun hq => ?_)) <;> (try (exfalso; omega)) <;> (conv => whnf))))
    exact retM_i _ [] [(1000, rflowC l s lim F)] rfl (le_mk (by repeat' (first | exact trivial | rfl | apply And.intro)) (by repeat' (first | exact trivial | rfl | apply And.intro)) rfl) rfl ⟨rfl, by rw [hF], .inl ⟨by rw [hF], rfl⟩⟩
end Go.Proofs.Ytpmoflggmdfmnaa
end

/- Layer 25: Least, Allocate, Witness of the reference. -/
section
namespace Go.Proofs.Ytpmoflggmdfmnaa
set_option linter.unusedVariables false
set_option linter.unusedSimpArgs false
set_option linter.unnecessarySimpa false
set_option linter.unusedSectionVars false
set_option maxRecDepth 10000
open Go.RowKit
def plGL25i_0 : Plan := (.take 0 (.take 1 (.take 2 (.take 3 (.take 4 (.take 5 (.take 6 (.take 7 (.take 8 (.take 9 (.take 10 (.take 11 (.alt 12 (.alt 13 (.take 14 .done) .stop) .stop)))))))))))))
def plGL25i_1 : Plan := (.take 0 (.take 1 (.take 2 (.take 3 (.take 4 (.take 6 (.take 7 (.take 8 (.take 9 (.alt 5 (.alt 10 (.take 11 (.alt 12 (.alt 13 (.take 14 .done) .stop) .stop)) .stop) (.alt 10 (.alt 5 (.take 11 (.alt 12 (.alt 13 (.take 14 .done) .stop) .stop)) .stop) .stop)))))))))))
set_option maxHeartbeats 4000000 in
theorem rLeast_ok (l : List Mrk) (s : List Scr) (k : Int) (hl : MksOk l) (hs : ScsOk s) : Good Try.prog TT false 16 [mrksV l, scrsV s, .int .i64 k] (· = .tup [.int .i64 (((lstF l s k).getD 0 : Nat)), .bool (lstF l s k).isSome]) := by
  have h16 := hl.len
  have h60 := hs.len
  cases hk : okK k with
  | false =>
    have e : lstF l s k = none := by rw [lstF, if_neg (by simp [hk])]
    rw [e]
    refine good_of mixed tabOk Try.func16 rfl rfl Try.ntmps16 Try.results16 rfl rfl ?_
    (conv => whnf); (repeat' (first | (refine arith_i ⟨by omega, by omega⟩ ?_; conv => whnf) | (refine arith_u ⟨by omega, by omega⟩ ?_; conv => whnf) | (refine arith_8 ⟨by omega, by omega⟩ ?_; conv => whnf) | (refine need_i (by first | omega | (simp only [List.length_cons, List.length_nil]; omega) | (simp only [List.length_append, List.length_cons, List.length_nil, List.length_map, List.length_replicate, List.length_modify]; omega)) ?_; conv => whnf) | ((with_reducible refine branch_tt ?_); conv => whnf) | ((with_reducible refine branch_ff ?_); conv => whnf) | (with_reducible refine branch_not ?_) | ((refine call_e ((rRight_ok l s k hl hs).mono fun r h => h.trans (bool_eq hk)) ?_); conv => whnf) | ((with_reducible refine slc_e ?_); conv => whnf) | ((with_reducible refine callS_a ?_); conv => whnf) | ((with_reducible refine bld_a ?_); conv => whnf) | ((with_reducible refine own_e ?_); conv => whnf) | ((with_reducible refine mkmap_b ?_); conv => whnf) | ((with_reducible refine branch_d (fun hq => ?_) (fun hq => ?_)) <;> (try (exfalso; omega)) <;> (conv => whnf)) | ((with_reducible refine branch_e (fun hq => ?_) (fun hq => ?_)) <;> (try (exfalso; omega)) <;> (conv => whnf)) | ((with_reducible refine branch_n (fun hq => ?_) (fun hq => ?_)) <;> (try (exfalso; omega)) <;> (conv => whnf)) | ((with_reducible refine branch_i (fun hq => ?_) (fun hq => ?_)) <;> (try (exfalso; omega)) <;> (conv => whnf))))
    exact ret_t (rs := [.int .i64 0, .bool false]) ⟨(rc_p rfl).g, (rc_p rfl).g, trivial⟩ rfl
  | true =>
    obtain ⟨q, rfl, hq1, hq2⟩ := okK_in hk
    have e : lstF l s q = bestF (elF l s) (capF l) s.length l.length q 61 0 := by rw [lstF, if_pos hk, Int.toNat_natCast, ← best_far (c := 61) (by omega)]
    obtain ⟨o, ho⟩ : ∃ o, o = bestF (elF l s) (capF l) s.length l.length q 61 0 := ⟨_, rfl⟩
    rw [e, ← ho]
    refine good_of mixed tabOk Try.func16 rfl rfl Try.ntmps16 Try.results16 rfl rfl ?_
    (conv => whnf); (repeat' (first | (refine arith_i ⟨by omega, by omega⟩ ?_; conv => whnf) | (refine arith_u ⟨by omega, by omega⟩ ?_; conv => whnf) | (refine arith_8 ⟨by omega, by omega⟩ ?_; conv => whnf) | (refine need_i (by first | omega | (simp only [List.length_cons, List.length_nil]; omega) | (simp only [List.length_append, List.length_cons, List.length_nil, List.length_map, List.length_replicate, List.length_modify]; omega)) ?_; conv => whnf) | ((with_reducible refine branch_tt ?_); conv => whnf) | ((with_reducible refine branch_ff ?_); conv => whnf) | (with_reducible refine branch_not ?_) | ((refine call_e ((rRight_ok l s q hl hs).mono fun r h => h.trans (bool_eq hk)) ?_); conv => whnf) | ((with_reducible refine slc_e ?_); conv => whnf) | ((with_reducible refine callS_a ?_); conv => whnf) | ((with_reducible refine bld_a ?_); conv => whnf) | ((with_reducible refine own_e ?_); conv => whnf) | ((with_reducible refine mkmap_b ?_); conv => whnf) | ((with_reducible refine branch_d (fun hq => ?_) (fun hq => ?_)) <;> (try (exfalso; omega)) <;> (conv => whnf)) | ((with_reducible refine branch_e (fun hq => ?_) (fun hq => ?_)) <;> (try (exfalso; omega)) <;> (conv => whnf)) | ((with_reducible refine branch_n (fun hq => ?_) (fun hq => ?_)) <;> (try (exfalso; omega)) <;> (conv => whnf)) | ((with_reducible refine branch_i (fun hq => ?_) (fun hq => ?_)) <;> (try (exfalso; omega)) <;> (conv => whnf))))
    refine loop_i (fun c : Nat => c ≤ 61 ∧ o = bestF (elF l s) (capF l) s.length l.length q (61 - c) c) (fun c => mkSt [(0, mrksV l), (1, scrsV s), (2, .int .i64 q), (8, .int .i64 c)] [] false) (fun c => 61 - c) 0 ⟨by omega, ho⟩ (le_mk (by repeat' (first | exact trivial | rfl | apply And.intro)) (by repeat' (first | exact trivial | rfl | apply And.intro)) rfl) ?_
    rintro c ⟨hc, hF⟩
    rcases Nat.lt_or_ge c 61 with hcl | hcl
    · have hNew := start_ok l s c hl hs (by omega)
      have hlim : ∀ m, m < l.length → limF (capF l) c m ≤ 1000 := fun m hm => by unfold limF; omega
      have hFill := rFill_ok l s (limF (capF l) c) hl hs hlim q hq2 flw0 wf_0
      rw [show 61 - c = (61 - (c + 1)) + 1 by omega, bestF] at hF
      (conv => whnf); (repeat' (first | (refine arith_i ⟨by omega, by omega⟩ ?_; conv => whnf) | (refine arith_u ⟨by omega, by omega⟩ ?_; conv => whnf) | (refine arith_8 ⟨by omega, by omega⟩ ?_; conv => whnf) | (refine need_i (by first | omega | (simp only [List.length_cons, List.length_nil]; omega) | (simp only [List.length_append, List.length_cons, List.length_nil, List.length_map, List.length_replicate, List.length_modify]; omega)) ?_; conv => whnf) | ((with_reducible refine branch_tt ?_); conv => whnf) | ((with_reducible refine branch_ff ?_); conv => whnf) | (with_reducible refine branch_not ?_) | (((refine acall_m ?_; refine rcall_e [] [] [(12, 950)] [(901, 911), (902, 912)] hNew rfl rfl rfl rfl trivial rfl ?_)); conv => whnf) | (((refine rcall_i [(1000, 950)] [(1101, 911), (1102, 912)] [] [] _ Le.refl hFill rfl rfl rfl rfl ⟨⟨_, rfl, rfl, rfl⟩, trivial⟩ ?_; rintro r ov bx' ⟨rfl, rfl, hr⟩; rcases hr with ⟨h1, rfl⟩ | ⟨i, h1, rfl⟩ <;> refine ⟨rfl, ?_⟩ <;> (conv => whnf))); conv => whnf) | ((with_reducible refine slc_e ?_); conv => whnf) | ((with_reducible refine callS_a ?_); conv => whnf) | ((with_reducible refine bld_a ?_); conv => whnf) | ((with_reducible refine own_e ?_); conv => whnf) | ((with_reducible refine mkmap_b ?_); conv => whnf) | ((with_reducible refine branch_d (fun hq => ?_) (fun hq => ?_)) <;> (try (exfalso; omega)) <;> (conv => whnf)) | ((with_reducible refine branch_e (fun hq => ?_) (fun hq => ?_)) <;> (try (exfalso; omega)) <;> (conv => whnf)) | ((with_reducible refine branch_n (fun hq => ?_) (fun hq => ?_)) <;> (try (exfalso; omega)) <;> (conv => whnf)) | ((with_reducible refine branch_i (fun hq => ?_) (fun hq => ?_)) <;> (try (exfalso; omega)) <;> (conv => whnf))))
      · have e2 : okF (elF l s) (capF l) s.length l.length q c = true := by rw [okF, h1]; rfl
        rw [if_pos e2] at hF
        rw [hF]
        exact ret_t (rs := [.int .i64 (c : Nat), .bool true]) ⟨(rc_p rfl).g, (rc_p rfl).g, trivial⟩ rfl
      · have e2 : ¬ okF (elF l s) (capF l) s.length l.length q c = true := by rw [okF, h1]; simp
        rw [if_neg e2] at hF
        exact ⟨c + 1, ⟨by omega, hF⟩, (le_mk (by repeat' (first | exact trivial | rfl | apply And.intro)) (by repeat' (first | exact trivial | rfl | apply And.intro)) rfl), by omega⟩
    · rw [show 61 - c = 0 by omega, bestF] at hF
      rw [hF]
      (conv => whnf); (repeat' (first | (refine arith_i ⟨by omega, by omega⟩ ?_; conv => whnf) | (refine arith_u ⟨by omega, by omega⟩ ?_; conv => whnf) | (refine arith_8 ⟨by omega, by omega⟩ ?_; conv => whnf) | (refine need_i (by first | omega | (simp only [List.length_cons, List.length_nil]; omega) | (simp only [List.length_append, List.length_cons, List.length_nil, List.length_map, List.length_replicate, List.length_modify]; omega)) ?_; conv => whnf) | ((with_reducible refine branch_tt ?_); conv => whnf) | ((with_reducible refine branch_ff ?_); conv => whnf) | (with_reducible refine branch_not ?_) | ((with_reducible refine slc_e ?_); conv => whnf) | ((with_reducible refine callS_a ?_); conv => whnf) | ((with_reducible refine bld_a ?_); conv => whnf) | ((with_reducible refine own_e ?_); conv => whnf) | ((with_reducible refine mkmap_b ?_); conv => whnf) | ((with_reducible refine branch_d (fun hq => ?_) (fun hq => ?_)) <;> (try (exfalso; omega)) <;> (conv => whnf)) | ((with_reducible refine branch_e (fun hq => ?_) (fun hq => ?_)) <;> (try (exfalso; omega)) <;> (conv => whnf)) | ((with_reducible refine branch_n (fun hq => ?_) (fun hq => ?_)) <;> (try (exfalso; omega)) <;> (conv => whnf)) | ((with_reducible refine branch_i (fun hq => ?_) (fun hq => ?_)) <;> (try (exfalso; omega)) <;> (conv => whnf))))
      exact ret_t (rs := [.int .i64 0, .bool false]) ⟨(rc_p rfl).g, (rc_p rfl).g, trivial⟩ rfl
set_option maxHeartbeats 4000000 in
theorem rAllocate_ok (l : List Mrk) (s : List Scr) (k : Int) (hl : MksOk l) (hs : ScsOk s) : Good Try.prog TT false 18 [mrksV l, scrsV s, .int .i64 k] (AllR l s k) := by
  have LL : (l.map encM).length = l.length := List.length_map ..
  have LS : (s.map encR).length = s.length := List.length_map ..
  have h16 := hl.len
  have h60 := hs.len
  have hLe := rLeast_ok l s k hl hs
  cases hk : okK k with
  | false =>
    refine good_of mixed tabOk Try.func18 rfl rfl Try.ntmps18 Try.results18 rfl rfl ?_
    (conv => whnf); (repeat' (first | (refine arith_i ⟨by omega, by omega⟩ ?_; conv => whnf) | (refine arith_u ⟨by omega, by omega⟩ ?_; conv => whnf) | (refine arith_8 ⟨by omega, by omega⟩ ?_; conv => whnf) | (refine need_i (by first | omega | (simp only [List.length_cons, List.length_nil]; omega) | (simp only [List.length_append, List.length_cons, List.length_nil, List.length_map, List.length_replicate, List.length_modify]; omega)) ?_; conv => whnf) | ((with_reducible refine branch_tt ?_); conv => whnf) | ((with_reducible refine branch_ff ?_); conv => whnf) | (with_reducible refine branch_not ?_) | ((refine call_e ((rRight_ok l s k hl hs).mono fun r h => h.trans (bool_eq hk)) ?_); conv => whnf) | ((with_reducible refine slc_e ?_); conv => whnf) | ((with_reducible refine callS_a ?_); conv => whnf) | ((with_reducible refine bld_a ?_); conv => whnf) | ((with_reducible refine own_e ?_); conv => whnf) | ((with_reducible refine mkmap_b ?_); conv => whnf) | (refine draw_i 15 plGL25i_0 (by decide +kernel) ?_; (conv => whnf); fail_if_success (guard_target =~ False)) | (refine draw_i 15 plGL25i_1 (by decide +kernel) ?_; (conv => whnf); fail_if_success (guard_target =~ False)) | ((with_reducible refine And.intro ?_ ?_) <;> (conv => whnf)) | (with_reducible exact trivial) | ((with_reducible refine branch_d (fun hq => ?_) (fun hq => ?_)) <;> (try (exfalso; omega)) <;> (conv => whnf)) | ((with_reducible refine branch_e (fun hq => ?_) (fun hq => ?_)) <;> (try (exfalso; omega)) <;> (conv => whnf)) | ((with_reducible refine branch_n (fun hq => ?_) (fun hq => ?_)) <;> (try (exfalso; omega)) <;> (conv => whnf)) | ((with_reducible refine branch_i (fun hq => ?_) (fun hq => ?_)) <;> (try (exfalso; omega)) <;> (conv => whnf))))
    exact ret_t (rs := [.lst 2 [], .int .i64 1]) ⟨.inl rc_n, (rc_p rfl).g, trivial⟩ (.inl ⟨hk, rfl⟩)
  | true =>
    obtain ⟨q, rfl, hq1, hq2⟩ := okK_in hk
    have e : lstF l s q = leastF (elF l s) (capF l) s.length l.length q := by rw [lstF, if_pos hk, Int.toNat_natCast]
    rw [e] at hLe
    cases h1 : leastF (elF l s) (capF l) s.length l.length q with
    | none =>
      rw [h1] at hLe
      replace hLe : Good Try.prog TT false 16 [mrksV l, scrsV s, .int .i64 q] (· = .tup [.int .i64 (0 : Nat), .bool false]) := hLe
      refine good_of mixed tabOk Try.func18 rfl rfl Try.ntmps18 Try.results18 rfl rfl ?_
      (conv => whnf); (repeat' (first | (refine arith_i ⟨by omega, by omega⟩ ?_; conv => whnf) | (refine arith_u ⟨by omega, by omega⟩ ?_; conv => whnf) | (refine arith_8 ⟨by omega, by omega⟩ ?_; conv => whnf) | (refine need_i (by first | omega | (simp only [List.length_cons, List.length_nil]; omega) | (simp only [List.length_append, List.length_cons, List.length_nil, List.length_map, List.length_replicate, List.length_modify]; omega)) ?_; conv => whnf) | ((with_reducible refine branch_tt ?_); conv => whnf) | ((with_reducible refine branch_ff ?_); conv => whnf) | (with_reducible refine branch_not ?_) | ((refine call_e ((rRight_ok l s q hl hs).mono fun r h => h.trans (bool_eq hk)) ?_); conv => whnf) | ((refine call_e hLe ?_); conv => whnf) | ((with_reducible refine slc_e ?_); conv => whnf) | ((with_reducible refine callS_a ?_); conv => whnf) | ((with_reducible refine bld_a ?_); conv => whnf) | ((with_reducible refine own_e ?_); conv => whnf) | ((with_reducible refine mkmap_b ?_); conv => whnf) | (refine draw_i 15 plGL25i_0 (by decide +kernel) ?_; (conv => whnf); fail_if_success (guard_target =~ False)) | (refine draw_i 15 plGL25i_1 (by decide +kernel) ?_; (conv => whnf); fail_if_success (guard_target =~ False)) | ((with_reducible refine And.intro ?_ ?_) <;> (conv => whnf)) | (with_reducible exact trivial) | ((with_reducible refine branch_d (fun hq => ?_) (fun hq => ?_)) <;> (try (exfalso; omega)) <;> (conv => whnf)) | ((with_reducible refine branch_e (fun hq => ?_) (fun hq => ?_)) <;> (try (exfalso; omega)) <;> (conv => whnf)) | ((with_reducible refine branch_n (fun hq => ?_) (fun hq => ?_)) <;> (try (exfalso; omega)) <;> (conv => whnf)) | ((with_reducible refine branch_i (fun hq => ?_) (fun hq => ?_)) <;> (try (exfalso; omega)) <;> (conv => whnf))))
      exact ret_t (rs := [.lst 2 [], .int .i64 41]) ⟨.inl rc_n, (rc_p rfl).g, trivial⟩ (.inr (.inl ⟨hk, e.trans h1, rfl⟩))
    | some a =>
      rw [h1] at hLe
      replace hLe : Good Try.prog TT false 16 [mrksV l, scrsV s, .int .i64 q] (· = .tup [.int .i64 (a : Nat), .bool true]) := hLe
      have ha := least_le h1
      have hNew := start_ok l s a hl hs (by omega)
      have hlim : ∀ m, m < l.length → limF (capF l) a m ≤ 1000 := fun m hm => by unfold limF; omega
      have hFill := rFill_ok l s (limF (capF l) a) hl hs hlim q hq2 flw0 wf_0
      have hok : (fillF (elF l s) (limF (capF l) a) s.length l.length q (List.range s.length) flw0).1 = none := by
        have := (least_iff.1 h1).1
        rw [okF, Option.isNone_iff_eq_none] at this
        exact this
      generalize hp : fillF (elF l s) (limF (capF l) a) s.length l.length q (List.range s.length) flw0 = p at hFill hok
      obtain ⟨o, s'⟩ := p
      obtain rfl : o = none := hok
      have hU : Upto (elF l s) (limF (capF l) a) s.length l.length q s.length s' := fill_won (k := 0) rfl (Nat.zero_le _) upto_0 hp
      refine good_of mixed tabOk Try.func18 rfl rfl Try.ntmps18 Try.results18 rfl rfl ?_
      (conv => whnf); (repeat' (first | (refine arith_i ⟨by omega, by omega⟩ ?_; conv => whnf) | (refine arith_u ⟨by omega, by omega⟩ ?_; conv => whnf) | (refine arith_8 ⟨by omega, by omega⟩ ?_; conv => whnf) | (refine need_i (by first | omega | (simp only [List.length_cons, List.length_nil]; omega) | (simp only [List.length_append, List.length_cons, List.length_nil, List.length_map, List.length_replicate, List.length_modify]; omega)) ?_; conv => whnf) | ((with_reducible refine branch_tt ?_); conv => whnf) | ((with_reducible refine branch_ff ?_); conv => whnf) | (with_reducible refine branch_not ?_) | ((refine call_e ((rRight_ok l s q hl hs).mono fun r h => h.trans (bool_eq hk)) ?_); conv => whnf) | ((refine call_e hLe ?_); conv => whnf) | (((refine acall_m ?_; refine rcall_e [] [] [(12, 950)] [(901, 911), (902, 912)] hNew rfl rfl rfl rfl trivial rfl ?_)); conv => whnf) | (((refine rcall_i [(1000, 950)] [(1101, 911), (1102, 912)] [] [] _ Le.refl hFill rfl rfl rfl rfl ⟨⟨_, rfl, rfl, rfl⟩, trivial⟩ ?_; rintro r ov bx' ⟨rfl, rfl, hr⟩; rcases hr with ⟨h1', rfl⟩ | ⟨i, h1', rfl⟩ <;> refine ⟨rfl, ?_⟩ <;> (conv => whnf))); conv => whnf) | ((with_reducible refine slc_e ?_); conv => whnf) | ((with_reducible refine callS_a ?_); conv => whnf) | ((with_reducible refine bld_a ?_); conv => whnf) | ((with_reducible refine own_e ?_); conv => whnf) | ((with_reducible refine mkmap_b ?_); conv => whnf) | (refine draw_i 15 plGL25i_0 (by decide +kernel) ?_; (conv => whnf); fail_if_success (guard_target =~ False)) | (refine draw_i 15 plGL25i_1 (by decide +kernel) ?_; (conv => whnf); fail_if_success (guard_target =~ False)) | ((with_reducible refine And.intro ?_ ?_) <;> (conv => whnf)) | (with_reducible exact trivial) | ((with_reducible refine branch_d (fun hq => ?_) (fun hq => ?_)) <;> (try (exfalso; omega)) <;> (conv => whnf)) | ((with_reducible refine branch_e (fun hq => ?_) (fun hq => ?_)) <;> (try (exfalso; omega)) <;> (conv => whnf)) | ((with_reducible refine branch_n (fun hq => ?_) (fun hq => ?_)) <;> (try (exfalso; omega)) <;> (conv => whnf)) | ((with_reducible refine branch_i (fun hq => ?_) (fun hq => ?_)) <;> (try (exfalso; omega)) <;> (conv => whnf))))
      all_goals try (exfalso; cases h1'; done)
      have LM : (rowsC s.length l.length s'.A).length = l.length := rowsC_len
      refine loop_i (fun i : Nat => i ≤ s.length) (fun i => mkSt [(0, mrksV l), (1, scrsV s), (10, .ptr 950 0), (11, .own 920 47 2 ((tasksT l s s'.A i).map encT)), (12, .int .i64 i)] [(950, rflowG 911 912 l s (limF (capF l) a) s')] false) (fun i => s.length - i) 0 (Nat.zero_le _) (Le.trans (le_adopt 11 920 47 2 rfl) (le_mk (by repeat' (first | exact trivial | rfl | apply And.intro)) (by repeat' (first | exact trivial | rfl | apply And.intro)) rfl)) ?_
      intro i hi
      have LT := tasksT_len (l := l) (s := s) (A := s'.A) (n := i)
      have LT2 : ((tasksT l s s'.A i).map encT).length = (tasksT l s s'.A i).length := List.length_map ..
      have hb : i * l.length ≤ 60 * 16 := Nat.mul_le_mul (by omega) h16
      rcases Nat.lt_or_ge i s.length with hil | hil
      · obtain ⟨x, hx⟩ : ∃ x, s[i]? = some x := ⟨_, List.getElem?_eq_getElem hil⟩
        (conv => whnf); (repeat' (first | (refine arith_i ⟨by omega, by omega⟩ ?_; conv => whnf) | (refine arith_u ⟨by omega, by omega⟩ ?_; conv => whnf) | (refine arith_8 ⟨by omega, by omega⟩ ?_; conv => whnf) | (refine need_i (by first | omega | (simp only [List.length_cons, List.length_nil]; omega) | (simp only [List.length_append, List.length_cons, List.length_nil, List.length_map, List.length_replicate, List.length_modify]; omega)) ?_; conv => whnf) | ((with_reducible refine branch_tt ?_); conv => whnf) | ((with_reducible refine branch_ff ?_); conv => whnf) | (with_reducible refine branch_not ?_) | ((with_reducible refine slc_e ?_); conv => whnf) | ((with_reducible refine callS_a ?_); conv => whnf) | ((with_reducible refine bld_a ?_); conv => whnf) | ((with_reducible refine own_e ?_); conv => whnf) | ((with_reducible refine mkmap_b ?_); conv => whnf) | (refine draw_i 15 plGL25i_0 (by decide +kernel) ?_; (conv => whnf); fail_if_success (guard_target =~ False)) | (refine draw_i 15 plGL25i_1 (by decide +kernel) ?_; (conv => whnf); fail_if_success (guard_target =~ False)) | ((with_reducible refine And.intro ?_ ?_) <;> (conv => whnf)) | (with_reducible exact trivial) | ((with_reducible refine branch_d (fun hq => ?_) (fun hq => ?_)) <;> (try (exfalso; omega)) <;> (conv => whnf)) | ((with_reducible refine branch_e (fun hq => ?_) (fun hq => ?_)) <;> (try (exfalso; omega)) <;> (conv => whnf)) | ((with_reducible refine branch_n (fun hq => ?_) (fun hq => ?_)) <;> (try (exfalso; omega)) <;> (conv => whnf)) | ((with_reducible refine branch_i (fun hq => ?_) (fun hq => ?_)) <;> (try (exfalso; omega)) <;> (conv => whnf))))
        refine loop_i (fun m : Nat => m ≤ l.length) (fun m => mkSt [(0, mrksV l), (1, scrsV s), (10, .ptr 950 0), (11, .own 920 47 2 ((tasksT l s s'.A i ++ rowT l s s'.A i m).map encT)), (12, .int .i64 i), (13, .int .i64 m)] [(950, rflowG 911 912 l s (limF (capF l) a) s')] false) (fun m => l.length - m) 0 (Nat.zero_le _) (by rw [show rowT l s s'.A i 0 = [] from rfl, List.append_nil]; exact (le_mk (by repeat' (first | exact trivial | rfl | apply And.intro)) (by repeat' (first | exact trivial | rfl | apply And.intro)) rfl)) ?_
        intro m hm
        have LR := rowT_len (l := l) (s := s) (A := s'.A) (i := i) (k := m)
        have LR2 : ((tasksT l s s'.A i ++ rowT l s s'.A i m).map encT).length = (tasksT l s s'.A i).length + (rowT l s s'.A i m).length := by simp
        rcases Nat.lt_or_ge m l.length with hml | hml
        · obtain ⟨y, hy⟩ : ∃ y, l[m]? = some y := ⟨_, List.getElem?_eq_getElem hml⟩
          (conv => whnf); (repeat' (first | (refine arith_i ⟨by omega, by omega⟩ ?_; conv => whnf) | (refine arith_u ⟨by omega, by omega⟩ ?_; conv => whnf) | (refine arith_8 ⟨by omega, by omega⟩ ?_; conv => whnf) | (refine need_i (by first | omega | (simp only [List.length_cons, List.length_nil]; omega) | (simp only [List.length_append, List.length_cons, List.length_nil, List.length_map, List.length_replicate, List.length_modify]; omega)) ?_; conv => whnf) | ((with_reducible refine branch_tt ?_); conv => whnf) | ((with_reducible refine branch_ff ?_); conv => whnf) | (with_reducible refine branch_not ?_) | ((refine idx_cs hy ?_); conv => whnf) | ((refine idx_cs hx ?_); conv => whnf) | ((refine ridx_f (m := m) rfl (by omega) ?_); conv => whnf) | ((refine idx_f (m := i) rfl (by omega) ?_); conv => whnf) | ((with_reducible refine slc_e ?_); conv => whnf) | ((with_reducible refine callS_a ?_); conv => whnf) | ((with_reducible refine bld_a ?_); conv => whnf) | ((with_reducible refine own_e ?_); conv => whnf) | ((with_reducible refine mkmap_b ?_); conv => whnf) | (refine draw_i 15 plGL25i_0 (by decide +kernel) ?_; (conv => whnf); fail_if_success (guard_target =~ False)) | (refine draw_i 15 plGL25i_1 (by decide +kernel) ?_; (conv => whnf); fail_if_success (guard_target =~ False)) | ((with_reducible refine And.intro ?_ ?_) <;> (conv => whnf)) | (with_reducible exact trivial) | ((with_reducible refine branch_d (fun hq => ?_) (fun hq => ?_)) <;> (try (exfalso; omega)) <;> (conv => whnf)) | ((with_reducible refine branch_e (fun hq => ?_) (fun hq => ?_)) <;> (try (exfalso; omega)) <;> (conv => whnf)) | ((with_reducible refine branch_n (fun hq => ?_) (fun hq => ?_)) <;> (try (exfalso; omega)) <;> (conv => whnf)) | ((with_reducible refine branch_i (fun hq => ?_) (fun hq => ?_)) <;> (try (exfalso; omega)) <;> (conv => whnf))))
          · have e1 : (tasksT l s s'.A i ++ rowT l s s'.A i (m + 1)).map encT = (tasksT l s s'.A i ++ rowT l s s'.A i m).map encT ++ [[.int .i64 x.number, .int .i64 y.id]] := by
              rw [rowT_next, if_pos hq, ← List.append_assoc, List.map_append, numF_at hx, idF_at hy]; rfl
            exact ⟨m + 1, by omega, by rw [e1]; exact (le_mk (by repeat' (first | exact trivial | rfl | apply And.intro)) (by repeat' (first | exact trivial | rfl | apply And.intro)) rfl), by omega⟩
          · have e1 : rowT l s s'.A i (m + 1) = rowT l s s'.A i m := by rw [rowT_next, if_neg (by simp [hq]), List.append_nil]
            exact ⟨m + 1, by omega, by rw [e1]; exact (le_mk (by repeat' (first | exact trivial | rfl | apply And.intro)) (by repeat' (first | exact trivial | rfl | apply And.intro)) rfl), by omega⟩
        · (conv => whnf); (repeat' (first | (refine arith_i ⟨by omega, by omega⟩ ?_; conv => whnf) | (refine arith_u ⟨by omega, by omega⟩ ?_; conv => whnf) | (refine arith_8 ⟨by omega, by omega⟩ ?_; conv => whnf) | (refine need_i (by first | omega | (simp only [List.length_cons, List.length_nil]; omega) | (simp only [List.length_append, List.length_cons, List.length_nil, List.length_map, List.length_replicate, List.length_modify]; omega)) ?_; conv => whnf) | ((with_reducible refine branch_tt ?_); conv => whnf) | ((with_reducible refine branch_ff ?_); conv => whnf) | (with_reducible refine branch_not ?_) | ((with_reducible refine slc_e ?_); conv => whnf) | ((with_reducible refine callS_a ?_); conv => whnf) | ((with_reducible refine bld_a ?_); conv => whnf) | ((with_reducible refine own_e ?_); conv => whnf) | ((with_reducible refine mkmap_b ?_); conv => whnf) | (refine draw_i 15 plGL25i_0 (by decide +kernel) ?_; (conv => whnf); fail_if_success (guard_target =~ False)) | (refine draw_i 15 plGL25i_1 (by decide +kernel) ?_; (conv => whnf); fail_if_success (guard_target =~ False)) | ((with_reducible refine And.intro ?_ ?_) <;> (conv => whnf)) | (with_reducible exact trivial) | ((with_reducible refine branch_d (fun hq => ?_) (fun hq => ?_)) <;> (try (exfalso; omega)) <;> (conv => whnf)) | ((with_reducible refine branch_e (fun hq => ?_) (fun hq => ?_)) <;> (try (exfalso; omega)) <;> (conv => whnf)) | ((with_reducible refine branch_n (fun hq => ?_) (fun hq => ?_)) <;> (try (exfalso; omega)) <;> (conv => whnf)) | ((with_reducible refine branch_i (fun hq => ?_) (fun hq => ?_)) <;> (try (exfalso; omega)) <;> (conv => whnf))))
          obtain rfl : m = l.length := by omega
          exact ⟨i + 1, by omega, by rw [tasksT_next]; exact (le_mk (by repeat' (first | exact trivial | rfl | apply And.intro)) (by repeat' (first | exact trivial | rfl | apply And.intro)) rfl), by omega⟩
      · (conv => whnf); (repeat' (first | (refine arith_i ⟨by omega, by omega⟩ ?_; conv => whnf) | (refine arith_u ⟨by omega, by omega⟩ ?_; conv => whnf) | (refine arith_8 ⟨by omega, by omega⟩ ?_; conv => whnf) | (refine need_i (by first | omega | (simp only [List.length_cons, List.length_nil]; omega) | (simp only [List.length_append, List.length_cons, List.length_nil, List.length_map, List.length_replicate, List.length_modify]; omega)) ?_; conv => whnf) | ((with_reducible refine branch_tt ?_); conv => whnf) | ((with_reducible refine branch_ff ?_); conv => whnf) | (with_reducible refine branch_not ?_) | ((with_reducible refine slc_e ?_); conv => whnf) | ((with_reducible refine callS_a ?_); conv => whnf) | ((with_reducible refine bld_a ?_); conv => whnf) | ((with_reducible refine own_e ?_); conv => whnf) | ((with_reducible refine mkmap_b ?_); conv => whnf) | (refine draw_i 15 plGL25i_0 (by decide +kernel) ?_; (conv => whnf); fail_if_success (guard_target =~ False)) | (refine draw_i 15 plGL25i_1 (by decide +kernel) ?_; (conv => whnf); fail_if_success (guard_target =~ False)) | ((with_reducible refine And.intro ?_ ?_) <;> (conv => whnf)) | (with_reducible exact trivial) | ((with_reducible refine branch_d (fun hq => ?_) (fun hq => ?_)) <;> (try (exfalso; omega)) <;> (conv => whnf)) | ((with_reducible refine branch_e (fun hq => ?_) (fun hq => ?_)) <;> (try (exfalso; omega)) <;> (conv => whnf)) | ((with_reducible refine branch_n (fun hq => ?_) (fun hq => ?_)) <;> (try (exfalso; omega)) <;> (conv => whnf)) | ((with_reducible refine branch_i (fun hq => ?_) (fun hq => ?_)) <;> (try (exfalso; omega)) <;> (conv => whnf))))
        obtain rfl : i = s.length := by omega
        exact ret_t (rs := [.lst 2 ((tasksT l s s'.A s.length).map encT), .int .i64 0]) ⟨.inl rc_o, (rc_p rfl).g, trivial⟩ (.inr (.inr ⟨a, s', hk, e.trans h1, by rw [Int.toNat_natCast]; exact hU, rfl⟩))
end Go.Proofs.Ytpmoflggmdfmnaa
end

/- Layer 26, plainly: who wrote a script is not seen. -/
section
namespace Go.Proofs.Ytpmoflggmdfmnaa
set_option linter.unusedVariables false
set_option linter.unusedSimpArgs false
set_option linter.unnecessarySimpa false
set_option linter.unusedSectionVars false
set_option maxRecDepth 10000
open Go.RowKit
theorem all_any {l : List Mrk} {s : List Scr} {k : Int} {r : AV} (hl : MksOk l) (hs : ScsOk s) (h : AllR l s k r) : ∃ ts e, r = .tup [tasksV ts, .int .i64 e] ∧ ts.length ≤ 960 ∧ ∀ (k : Nat) (t : Int × Int), ts[k]? = some t → 0 ≤ t.1 ∧ t.1 ≤ 1000000 := by
  rcases h with ⟨-, h⟩ | ⟨-, -, h⟩ | ⟨a, F, -, -, -, h⟩
  · exact ⟨[], _, h, by simp, fun k t hk => by simp at hk⟩
  · exact ⟨[], _, h, by simp, fun k t hk => by simp at hk⟩
  · refine ⟨_, _, h, ?_, fun k t hk => ?_⟩
    rotate_left
    · obtain ⟨p, m, h1, h2, rfl, h4⟩ := tasksT_mem t (List.mem_of_getElem? hk)
      obtain ⟨x, hx⟩ : ∃ x, s[p]? = some x := ⟨_, List.getElem?_eq_getElem h1⟩
      have g := (hs.all p x hx).1
      have g1 := g.paper
      have g2 := g.cand
      have g3 := g.number
      simp only [papB, Bool.and_eq_true, decide_eq_true_eq] at g1
      simp only [numF_at hx]; omega
    have h1 := tasksT_len (l := l) (s := s) (A := F.A) (n := s.length)
    have := Nat.mul_le_mul hs.len hl.len
    omega
def shS (n : Int) (x : Scr) : Scr := { x with cand := x.cand + n, number := x.number + n }
def shT (n : Int) (t : Int × Int) : Int × Int := (t.1 + n, t.2)
theorem sh_at {s : List Scr} {n : Int} {k : Nat} {y : Scr} (h : (s.map (shS n))[k]? = some y) : ∃ x, s[k]? = some x ∧ y = shS n x := by
  rw [List.getElem?_map, Option.map_eq_some_iff] at h
  obtain ⟨x, h1, h2⟩ := h
  exact ⟨x, h1, h2.symm⟩
theorem sh_ok {s : List Scr} {n : Int} (hs : ScsOk s) (hn : 0 ≤ n ∧ n ≤ 255) (hc : ∀ (k : Nat) (x : Scr), s[k]? = some x → x.cand ≤ 100) : ScsOk (s.map (shS n)) := by
  refine ⟨by rw [List.length_map]; exact hs.len, fun k y h => ?_, fun k a b ha hb => ?_⟩
  · obtain ⟨x, hx, rfl⟩ := sh_at h
    obtain ⟨g, hp⟩ := hs.all k x hx
    have := hc k x hx
    have g2 := g.cand
    have g3 := g.number
    exact ⟨⟨g.paper, by simp only [shS]; omega, g.centre, g.variant, by simp only [shS]; omega⟩, hp⟩
  · obtain ⟨x, hx, rfl⟩ := sh_at ha
    obtain ⟨y, hy, rfl⟩ := sh_at hb
    have := hs.asc k x y hx hy
    simp only [shS]; omega
theorem comm_sh {s : List Scr} {n k : Int} : commF (s.map (shS n)) k = (commF s k).map (· + n) := by
  unfold commF
  rw [List.length_map, List.map_map]
  refine List.map_congr_left fun i hi => ?_
  have := idxs_mem.1 hi
  obtain ⟨x, hx⟩ : ∃ x, s[i.toNat]? = some x := ⟨_, List.getElem?_eq_getElem (by omega)⟩
  have hy : (s.map (shS n))[i.toNat]? = some (shS n x) := by rw [List.getElem?_map, hx]; rfl
  rw [Function.comp_apply, numF_at hx, numF_at hy]; rfl
theorem bool_iff {a b : Bool} (h : a = true ↔ b = true) : a = b := by cases a <;> cases b <;> simp_all
theorem mine_sh {l : List Mrk} {s : List Scr} {ts : List (Int × Int)} {n k id : Int} {x : Scr} : mineB l (s.map (shS n)) (ts.map (shT n)) k id (shS n x) = mineB l s ts k id x := by
  unfold mineB
  have h1 : hasP (commF (s.map (shS n)) k) (shS n x).number = hasP (commF s k) x.number := by
    rw [comm_sh]
    refine bool_iff ?_
    rw [hasP_mem, hasP_mem, List.mem_map]
    constructor
    · rintro ⟨y, hy, he⟩
      have : y = x.number := by simp only [shS] at he; omega
      rw [← this]; exact hy
    · intro h; exact ⟨_, h, rfl⟩
  have h2 : ((ts.map (shT n)).any fun t => t.1 == (shS n x).number && t.2 == id) = ts.any fun t => t.1 == x.number && t.2 == id := by
    rw [List.any_map]
    congr 1
    funext t
    simp only [Function.comp_apply, shT, shS]
    congr 1
    refine bool_iff ?_
    rw [beq_iff_eq, beq_iff_eq]; omega
  rw [h1, h2]
  rfl
theorem rq_sh {l : List Mrk} {s : List Scr} {ts : List (Int × Int)} {n k id : Int} : (s.map (shS n)).filter (mineB l (s.map (shS n)) (ts.map (shT n)) k id) = (s.filter (mineB l s ts k id)).map (shS n) := by
  rw [List.filter_map]
  congr 1
  refine congrArg (fun f => s.filter f) ?_
  funext x
  exact mine_sh
theorem scrN_at {s : List Scr} (hs : ScsOk s) {x : Scr} (hx : x ∈ s) : scrN s x.number = x := by
  obtain ⟨p, hp⟩ := List.getElem?_of_mem hx
  have := findS_num hs.asc (List.getElem?_eq_some_iff.1 hp).1
  rw [numF_at hp] at this
  unfold scrN
  rw [this]
  simp only [hp, Option.getD_some]
def vwOf (x : Scr) (j : Nat) : Vw := ⟨j, x.paper, x.variant, x.pages⟩
theorem vw_at {s F : List Scr} (hs : ScsOk s) (hF : ∀ x ∈ F, x ∈ s) (j : Nat) : (vwL s (F.map (·.number)))[j]? = (F[j]?).map fun x => vwOf x j := by
  unfold vwL
  rw [List.getElem?_map, List.length_map]
  rcases Nat.lt_or_ge j F.length with h | h
  · obtain ⟨x, hx⟩ : ∃ x, F[j]? = some x := ⟨_, List.getElem?_eq_getElem h⟩
    rw [List.getElem?_range h, hx]
    have hn : (F.map (·.number))[j]? = some x.number := by rw [List.getElem?_map, hx]; rfl
    simp only [Option.map_some]
    rw [nth_eq hn, scrN_at hs (hF x (List.mem_of_getElem? hx))]
    rfl
  · rw [List.getElem?_eq_none (by simpa using h), List.getElem?_eq_none h]; rfl
theorem vw_sh {l : List Mrk} {s : List Scr} {ts : List (Int × Int)} {n k id : Int} (hs : ScsOk s) (hs' : ScsOk (s.map (shS n))) : vwL (s.map (shS n)) (queueF l (s.map (shS n)) (ts.map (shT n)) k id) = vwL s (queueF l s ts k id) := by
  rw [queue_eq hs, queue_eq hs']
  unfold rqF
  rw [rq_sh]
  refine List.ext_getElem? fun j => ?_
  rw [vw_at hs' (fun x hx => by
    obtain ⟨y, hy, rfl⟩ := List.mem_map.1 hx
    exact List.mem_map.2 ⟨y, (List.mem_filter.1 hy).1, rfl⟩), vw_at hs (fun x hx => (List.mem_filter.1 hx).1)]
  rw [List.getElem?_map, Option.map_map]
  rfl
end Go.Proofs.Ytpmoflggmdfmnaa
end

/- Layer 26: what markers see does not depend on who wrote a script. -/
section
namespace Go.Proofs.Ytpmoflggmdfmnaa
set_option linter.unusedVariables false
set_option linter.unusedSimpArgs false
set_option linter.unnecessarySimpa false
set_option linter.unusedSectionVars false
set_option maxRecDepth 10000
open Go.RowKit
def plGL26o_0 : Plan := (.take 0 (.take 1 (.take 2 (.take 3 (.take 4 (.take 5 (.take 6 (.take 8 (.take 9 (.take 10 (.take 11 (.take 12 (.take 13 (.alt 7 (.alt 14 (.alt 15 (.take 16 .done) .stop) .stop) .stop))))))))))))))
set_option maxHeartbeats 8000000 in
theorem hides_law (xs : List Int) (b : Int) (hb : 0 ≤ b ∧ b ≤ 255) : Good Try.prog TT false 4 [ints xs, .int .u8 b] (· = .bool true) := by
  rcases Nat.lt_or_ge 600 xs.length with h600 | h600
  · refine good_of mixed tabOk Try.func4 rfl rfl Try.ntmps4 Try.results4 rfl rfl ?_
    (conv => whnf); (repeat' (first | (refine arith_i ⟨by omega, by omega⟩ ?_; conv => whnf) | (refine arith_u ⟨by omega, by omega⟩ ?_; conv => whnf) | (refine arith_8 ⟨by omega, by omega⟩ ?_; conv => whnf) | (refine need_i (by first | omega | (simp only [List.length_cons, List.length_nil]; omega) | (simp only [List.length_append, List.length_cons, List.length_nil, List.length_map, List.length_replicate, List.length_modify]; omega)) ?_; conv => whnf) | ((with_reducible refine branch_tt ?_); conv => whnf) | ((with_reducible refine branch_ff ?_); conv => whnf) | (with_reducible refine branch_not ?_) | ((refine call_e ((light_ok xs).mono fun r h => h.trans (bool_eq (decide_eq_false (by omega) : _ = false))) ?_); conv => whnf) | ((refine call_e sane26_ok ?_); conv => whnf) | ((with_reducible refine slc_e ?_); conv => whnf) | ((with_reducible refine callS_a ?_); conv => whnf) | ((with_reducible refine bld_a ?_); conv => whnf) | ((with_reducible refine own_e ?_); conv => whnf) | ((with_reducible refine mkmap_b ?_); conv => whnf) | (refine draw_i 17 plGL26o_0 (by decide +kernel) ?_; (conv => whnf); fail_if_success (guard_target =~ False)) | ((with_reducible refine And.intro ?_ ?_) <;> (conv => whnf)) | (with_reducible exact trivial) | ((with_reducible refine branch_d (fun hq => ?_) (fun hq => ?_)) <;> (try (exfalso; omega)) <;> (conv => whnf)) | ((with_reducible refine branch_e (fun hq => ?_) (fun hq => ?_)) <;> (try (exfalso; omega)) <;> (conv => whnf)) | ((with_reducible refine branch_n (fun hq => ?_) (fun hq => ?_)) <;> (try (exfalso; omega)) <;> (conv => whnf)) | ((with_reducible refine branch_i (fun hq => ?_) (fun hq => ?_)) <;> (try (exfalso; omega)) <;> (conv => whnf))))
    exact ret_p rfl rfl
  refine good_of mixed tabOk Try.func4 rfl rfl Try.ntmps4 Try.results4 rfl rfl ?_
  (conv => whnf); (repeat' (first | (refine arith_i ⟨by omega, by omega⟩ ?_; conv => whnf) | (refine arith_u ⟨by omega, by omega⟩ ?_; conv => whnf) | (refine arith_8 ⟨by omega, by omega⟩ ?_; conv => whnf) | (refine need_i (by first | omega | (simp only [List.length_cons, List.length_nil]; omega) | (simp only [List.length_append, List.length_cons, List.length_nil, List.length_map, List.length_replicate, List.length_modify]; omega)) ?_; conv => whnf) | ((with_reducible refine branch_tt ?_); conv => whnf) | ((with_reducible refine branch_ff ?_); conv => whnf) | (with_reducible refine branch_not ?_) | ((refine call_e ((light_ok xs).mono fun r h => h.trans (bool_eq (decide_eq_true (by omega) : _ = true))) ?_); conv => whnf) | ((refine call_e (roll_ok xs h600) ?_); conv => whnf) | (((refine call_i setup_ok fun r hr => ?_; obtain ⟨l, s, ps, es, sd, m1, m2, m3, m4, rfl, H⟩ := hr; have LS : (s.map encR).length = s.length := List.length_map ..; have LL : (l.map encM).length = l.length := List.length_map ..)); conv => whnf) | ((with_reducible refine slc_e ?_); conv => whnf) | ((with_reducible refine callS_a ?_); conv => whnf) | ((with_reducible refine bld_a ?_); conv => whnf) | ((with_reducible refine own_e ?_); conv => whnf) | ((with_reducible refine mkmap_b ?_); conv => whnf) | (refine draw_i 17 plGL26o_0 (by decide +kernel) ?_; (conv => whnf); fail_if_success (guard_target =~ False)) | ((with_reducible refine And.intro ?_ ?_) <;> (conv => whnf)) | (with_reducible exact trivial) | ((with_reducible refine branch_d (fun hq => ?_) (fun hq => ?_)) <;> (try (exfalso; omega)) <;> (conv => whnf)) | ((with_reducible refine branch_e (fun hq => ?_) (fun hq => ?_)) <;> (try (exfalso; omega)) <;> (conv => whnf)) | ((with_reducible refine branch_n (fun hq => ?_) (fun hq => ?_)) <;> (try (exfalso; omega)) <;> (conv => whnf)) | ((with_reducible refine branch_i (fun hq => ?_) (fun hq => ?_)) <;> (try (exfalso; omega)) <;> (conv => whnf))))
  have hsh : ∀ (i : Nat) (x : Scr), s[i]? = some x → ((s.take (i + 1)).map (shS b)).map encR = ((s.take i).map (shS b)).map encR ++ [encR (shS b x)] := fun i x hx => by
    rw [List.take_add_one, hx, List.map_append, List.map_append]; rfl
  refine loop_i (fun i : Nat => i ≤ s.length) (fun i => mkSt [(1, .int .u8 b), (6, .ptr 6 0), (7, .own 200 63 7 (((s.take i).map (shS b)).map encR)), (26, scrsV s), (27, .int .i64 s.length), (28, .int .i64 i)] [(6, stpV l s ps es sd m1 m2 m3 m4)] true) (fun i => s.length - i) 0 (Nat.zero_le _) (Le.trans (le_adopt 7 200 63 7 rfl) (le_mk ⟨rfl, rfl, rfl, rfl, int_eq (by rw [LS]), rfl, trivial⟩ ⟨rfl, trivial⟩ rfl)) ?_
  intro i hi
  have Lo : (((s.take i).map (shS b)).map encR).length = i := by rw [List.length_map, List.length_map, List.length_take]; omega
  have hs8 := H.s8
  rcases Nat.lt_or_ge i s.length with hil | hil
  · obtain ⟨x, hx⟩ : ∃ x, s[i]? = some x := ⟨_, List.getElem?_eq_getElem hil⟩
    have hcn := (H.pgs i x hx).1.2
    obtain ⟨hg, hpg⟩ := H.scs.all i x hx
    have hg2 := hg.cand
    have hg3 := hg.number
    obtain ⟨-, pp, hpm, hp1, hp2⟩ := H.pgs i x hx
    obtain ⟨pk, hpk⟩ := List.getElem?_of_mem hpm
    have hpo := H.pap pk pp hpk
    obtain ⟨hc0, hc1, -⟩ := hpo
    (conv => whnf); (repeat' (first | (refine arith_i ⟨by omega, by omega⟩ ?_; conv => whnf) | (refine arith_u ⟨by omega, by omega⟩ ?_; conv => whnf) | (refine arith_8 ⟨by omega, by omega⟩ ?_; conv => whnf) | (refine need_i (by first | omega | (simp only [List.length_cons, List.length_nil]; omega) | (simp only [List.length_append, List.length_cons, List.length_nil, List.length_map, List.length_replicate, List.length_modify]; omega)) ?_; conv => whnf) | ((with_reducible refine branch_tt ?_); conv => whnf) | ((with_reducible refine branch_ff ?_); conv => whnf) | (with_reducible refine branch_not ?_) | ((refine idx_cs hx ?_); conv => whnf) | ((with_reducible refine slc_e ?_); conv => whnf) | ((with_reducible refine callS_a ?_); conv => whnf) | ((with_reducible refine bld_a ?_); conv => whnf) | ((with_reducible refine own_e ?_); conv => whnf) | ((with_reducible refine mkmap_b ?_); conv => whnf) | (refine draw_i 17 plGL26o_0 (by decide +kernel) ?_; (conv => whnf); fail_if_success (guard_target =~ False)) | ((with_reducible refine And.intro ?_ ?_) <;> (conv => whnf)) | (with_reducible exact trivial) | ((with_reducible refine branch_d (fun hq => ?_) (fun hq => ?_)) <;> (try (exfalso; omega)) <;> (conv => whnf)) | ((with_reducible refine branch_e (fun hq => ?_) (fun hq => ?_)) <;> (try (exfalso; omega)) <;> (conv => whnf)) | ((with_reducible refine branch_n (fun hq => ?_) (fun hq => ?_)) <;> (try (exfalso; omega)) <;> (conv => whnf)) | ((with_reducible refine branch_i (fun hq => ?_) (fun hq => ?_)) <;> (try (exfalso; omega)) <;> (conv => whnf))))
    exact ⟨i + 1, by omega, by rw [hsh i x hx]; exact (le_mk (by repeat' (first | exact trivial | rfl | apply And.intro)) (by repeat' (first | exact trivial | rfl | apply And.intro)) rfl), by omega⟩
  · rw [List.take_of_length_le hil]
    obtain rfl : i = s.length := by omega
    (conv => whnf); (repeat' (first | (refine arith_i ⟨by omega, by omega⟩ ?_; conv => whnf) | (refine arith_u ⟨by omega, by omega⟩ ?_; conv => whnf) | (refine arith_8 ⟨by omega, by omega⟩ ?_; conv => whnf) | (refine need_i (by first | omega | (simp only [List.length_cons, List.length_nil]; omega) | (simp only [List.length_append, List.length_cons, List.length_nil, List.length_map, List.length_replicate, List.length_modify]; omega)) ?_; conv => whnf) | ((with_reducible refine branch_tt ?_); conv => whnf) | ((with_reducible refine branch_ff ?_); conv => whnf) | (with_reducible refine branch_not ?_) | (((refine call_i ((rAllocate_ok l s 2 H.mks H.scs).mono fun r h => all_any H.mks H.scs h) fun r hr => ?_; obtain ⟨ts, e, rfl, hts, htb⟩ := hr)); conv => whnf) | ((with_reducible refine slc_e ?_); conv => whnf) | ((with_reducible refine callS_a ?_); conv => whnf) | ((with_reducible refine bld_a ?_); conv => whnf) | ((with_reducible refine own_e ?_); conv => whnf) | ((with_reducible refine mkmap_b ?_); conv => whnf) | (refine draw_i 17 plGL26o_0 (by decide +kernel) ?_; (conv => whnf); fail_if_success (guard_target =~ False)) | ((with_reducible refine And.intro ?_ ?_) <;> (conv => whnf)) | (with_reducible exact trivial) | ((with_reducible refine branch_d (fun hq => ?_) (fun hq => ?_)) <;> (try (exfalso; omega)) <;> (conv => whnf)) | ((with_reducible refine branch_e (fun hq => ?_) (fun hq => ?_)) <;> (try (exfalso; omega)) <;> (conv => whnf)) | ((with_reducible refine branch_n (fun hq => ?_) (fun hq => ?_)) <;> (try (exfalso; omega)) <;> (conv => whnf)) | ((with_reducible refine branch_i (fun hq => ?_) (fun hq => ?_)) <;> (try (exfalso; omega)) <;> (conv => whnf))))
    have LT : (ts.map encT).length = ts.length := List.length_map ..
    have hmv : ∀ (j : Nat) (t : Int × Int), ts[j]? = some t → ((ts.take (j + 1)).map (shT b)).map encT = ((ts.take j).map (shT b)).map encT ++ [encT (shT b t)] := fun j t ht => by
      rw [List.take_add_one, ht, List.map_append, List.map_append]; rfl
    refine loop_i (fun j : Nat => j ≤ ts.length) (fun j => mkSt [(1, .int .u8 b), (6, .ptr 6 0), (7, .own 200 63 7 ((s.map (shS b)).map encR)), (10, tasksV ts), (12, .own 210 47 2 (((ts.take j).map (shT b)).map encT)), (57, tasksV ts), (58, .int .i64 ts.length), (59, .int .i64 j)] [(6, stpV l s ps es sd m1 m2 m3 m4)] true) (fun j => ts.length - j) 0 (Nat.zero_le _) (Le.trans (le_adopt 12 210 47 2 rfl) (le_mk ⟨rfl, rfl, rfl, rfl, rfl, rfl, int_eq (by rw [LT]), rfl, trivial⟩ ⟨rfl, trivial⟩ rfl)) ?_
    intro j hj
    have Lm : (((ts.take j).map (shT b)).map encT).length = j := by rw [List.length_map, List.length_map, List.length_take]; omega
    rcases Nat.lt_or_ge j ts.length with hjl | hjl
    · obtain ⟨t, ht⟩ : ∃ t, ts[j]? = some t := ⟨_, List.getElem?_eq_getElem hjl⟩
      have htb' := htb j t ht
      (conv => whnf); (repeat' (first | (refine arith_i ⟨by omega, by omega⟩ ?_; conv => whnf) | (refine arith_u ⟨by omega, by omega⟩ ?_; conv => whnf) | (refine arith_8 ⟨by omega, by omega⟩ ?_; conv => whnf) | (refine need_i (by first | omega | (simp only [List.length_cons, List.length_nil]; omega) | (simp only [List.length_append, List.length_cons, List.length_nil, List.length_map, List.length_replicate, List.length_modify]; omega)) ?_; conv => whnf) | ((with_reducible refine branch_tt ?_); conv => whnf) | ((with_reducible refine branch_ff ?_); conv => whnf) | (with_reducible refine branch_not ?_) | ((refine idx_cs ht ?_); conv => whnf) | ((with_reducible refine slc_e ?_); conv => whnf) | ((with_reducible refine callS_a ?_); conv => whnf) | ((with_reducible refine bld_a ?_); conv => whnf) | ((with_reducible refine own_e ?_); conv => whnf) | ((with_reducible refine mkmap_b ?_); conv => whnf) | (refine draw_i 17 plGL26o_0 (by decide +kernel) ?_; (conv => whnf); fail_if_success (guard_target =~ False)) | ((with_reducible refine And.intro ?_ ?_) <;> (conv => whnf)) | (with_reducible exact trivial) | ((with_reducible refine branch_d (fun hq => ?_) (fun hq => ?_)) <;> (try (exfalso; omega)) <;> (conv => whnf)) | ((with_reducible refine branch_e (fun hq => ?_) (fun hq => ?_)) <;> (try (exfalso; omega)) <;> (conv => whnf)) | ((with_reducible refine branch_n (fun hq => ?_) (fun hq => ?_)) <;> (try (exfalso; omega)) <;> (conv => whnf)) | ((with_reducible refine branch_i (fun hq => ?_) (fun hq => ?_)) <;> (try (exfalso; omega)) <;> (conv => whnf))))
      exact ⟨j + 1, by omega, by rw [hmv j t ht]; exact (le_mk (by repeat' (first | exact trivial | rfl | apply And.intro)) (by repeat' (first | exact trivial | rfl | apply And.intro)) rfl), by omega⟩
    · rw [List.take_of_length_le hjl]
      obtain rfl : j = ts.length := by omega
      (conv => whnf); (repeat' (first | (refine arith_i ⟨by omega, by omega⟩ ?_; conv => whnf) | (refine arith_u ⟨by omega, by omega⟩ ?_; conv => whnf) | (refine arith_8 ⟨by omega, by omega⟩ ?_; conv => whnf) | (refine need_i (by first | omega | (simp only [List.length_cons, List.length_nil]; omega) | (simp only [List.length_append, List.length_cons, List.length_nil, List.length_map, List.length_replicate, List.length_modify]; omega)) ?_; conv => whnf) | ((with_reducible refine branch_tt ?_); conv => whnf) | ((with_reducible refine branch_ff ?_); conv => whnf) | (with_reducible refine branch_not ?_) | ((with_reducible refine slc_e ?_); conv => whnf) | ((with_reducible refine callS_a ?_); conv => whnf) | ((with_reducible refine bld_a ?_); conv => whnf) | ((with_reducible refine own_e ?_); conv => whnf) | ((with_reducible refine mkmap_b ?_); conv => whnf) | (refine draw_i 17 plGL26o_0 (by decide +kernel) ?_; (conv => whnf); fail_if_success (guard_target =~ False)) | ((with_reducible refine And.intro ?_ ?_) <;> (conv => whnf)) | (with_reducible exact trivial) | ((with_reducible refine branch_d (fun hq => ?_) (fun hq => ?_)) <;> (try (exfalso; omega)) <;> (conv => whnf)) | ((with_reducible refine branch_e (fun hq => ?_) (fun hq => ?_)) <;> (try (exfalso; omega)) <;> (conv => whnf)) | ((with_reducible refine branch_n (fun hq => ?_) (fun hq => ?_)) <;> (try (exfalso; omega)) <;> (conv => whnf)) | ((with_reducible refine branch_i (fun hq => ?_) (fun hq => ?_)) <;> (try (exfalso; omega)) <;> (conv => whnf))))
      have hcand : ∀ (k : Nat) (x : Scr), s[k]? = some x → x.cand ≤ 100 := fun k x hx => (H.pgs k x hx).1.2
      have hl5 := H.l5
      have hs' := sh_ok (n := b) H.scs hb hcand
      refine loop_i (fun j : Nat => j ≤ l.length) (fun j => mkSt [(6, .ptr 6 0), (7, scrsV (s.map (shS b))), (10, tasksV ts), (12, tasksV (ts.map (shT b))), (76, mrksV l), (77, .int .i64 l.length), (78, .int .i64 j)] [(6, stpV l s ps es sd m1 m2 m3 m4)] true) (fun j => l.length - j) 0 (Nat.zero_le _) (Le.trans (le_erase 200) (Le.trans (le_erase 210) (le_mk ⟨rfl, rfl, rfl, rfl, rfl, int_eq (by rw [LL]), rfl, trivial⟩ ⟨rfl, trivial⟩ rfl))) ?_
      intro j hj
      rcases Nat.lt_or_ge j l.length with hjl | hjl
      · obtain ⟨m, hm⟩ : ∃ m, l[j]? = some m := ⟨_, List.getElem?_eq_getElem hjl⟩
        have hV1 := views_ok l s ts 2 m.id (by omega) H.mks H.scs (by decide)
        have hV2 := views_ok l (s.map (shS b)) (ts.map (shT b)) 2 m.id (by rw [List.length_map]; omega) H.mks hs' (by decide)
        rw [viewsL_eq] at hV1 hV2
        rw [vw_sh H.scs hs'] at hV2
        have hvl : (vwL s (queueF l s ts 2 m.id)).length ≤ 1000000 := by
          rw [vwL_len]; have := queue_len (l := l) (s := s) (ts := ts) (k := 2) (id := m.id) (by omega) H.scs; omega
        have hE := viewsEq_ok _ hvl (vwL_pages (ns := queueF l s ts 2 m.id) H.scs)
        generalize vwL s (queueF l s ts 2 m.id) = vs at hV1 hV2 hE hvl
        (conv => whnf); (repeat' (first | (refine arith_i ⟨by omega, by omega⟩ ?_; conv => whnf) | (refine arith_u ⟨by omega, by omega⟩ ?_; conv => whnf) | (refine arith_8 ⟨by omega, by omega⟩ ?_; conv => whnf) | (refine need_i (by first | omega | (simp only [List.length_cons, List.length_nil]; omega) | (simp only [List.length_append, List.length_cons, List.length_nil, List.length_map, List.length_replicate, List.length_modify]; omega)) ?_; conv => whnf) | ((with_reducible refine branch_tt ?_); conv => whnf) | ((with_reducible refine branch_ff ?_); conv => whnf) | (with_reducible refine branch_not ?_) | ((refine idx_cs hm ?_); conv => whnf) | ((refine call_e hV1 ?_); conv => whnf) | ((refine call_e hV2 ?_); conv => whnf) | ((refine call_e hE ?_); conv => whnf) | ((with_reducible refine slc_e ?_); conv => whnf) | ((with_reducible refine callS_a ?_); conv => whnf) | ((with_reducible refine bld_a ?_); conv => whnf) | ((with_reducible refine own_e ?_); conv => whnf) | ((with_reducible refine mkmap_b ?_); conv => whnf) | (refine draw_i 17 plGL26o_0 (by decide +kernel) ?_; (conv => whnf); fail_if_success (guard_target =~ False)) | ((with_reducible refine And.intro ?_ ?_) <;> (conv => whnf)) | (with_reducible exact trivial) | ((with_reducible refine branch_d (fun hq => ?_) (fun hq => ?_)) <;> (try (exfalso; omega)) <;> (conv => whnf)) | ((with_reducible refine branch_e (fun hq => ?_) (fun hq => ?_)) <;> (try (exfalso; omega)) <;> (conv => whnf)) | ((with_reducible refine branch_n (fun hq => ?_) (fun hq => ?_)) <;> (try (exfalso; omega)) <;> (conv => whnf)) | ((with_reducible refine branch_i (fun hq => ?_) (fun hq => ?_)) <;> (try (exfalso; omega)) <;> (conv => whnf))))
        all_goals exact ⟨j + 1, by omega, (le_mk (by repeat' (first | exact trivial | rfl | apply And.intro)) (by repeat' (first | exact trivial | rfl | apply And.intro)) rfl), by omega⟩
      · (conv => whnf); (repeat' (first | (refine arith_i ⟨by omega, by omega⟩ ?_; conv => whnf) | (refine arith_u ⟨by omega, by omega⟩ ?_; conv => whnf) | (refine arith_8 ⟨by omega, by omega⟩ ?_; conv => whnf) | (refine need_i (by first | omega | (simp only [List.length_cons, List.length_nil]; omega) | (simp only [List.length_append, List.length_cons, List.length_nil, List.length_map, List.length_replicate, List.length_modify]; omega)) ?_; conv => whnf) | ((with_reducible refine branch_tt ?_); conv => whnf) | ((with_reducible refine branch_ff ?_); conv => whnf) | (with_reducible refine branch_not ?_) | ((refine call_e sane26_ok ?_); conv => whnf) | ((with_reducible refine slc_e ?_); conv => whnf) | ((with_reducible refine callS_a ?_); conv => whnf) | ((with_reducible refine bld_a ?_); conv => whnf) | ((with_reducible refine own_e ?_); conv => whnf) | ((with_reducible refine mkmap_b ?_); conv => whnf) | (refine draw_i 17 plGL26o_0 (by decide +kernel) ?_; (conv => whnf); fail_if_success (guard_target =~ False)) | ((with_reducible refine And.intro ?_ ?_) <;> (conv => whnf)) | (with_reducible exact trivial) | ((with_reducible refine branch_d (fun hq => ?_) (fun hq => ?_)) <;> (try (exfalso; omega)) <;> (conv => whnf)) | ((with_reducible refine branch_e (fun hq => ?_) (fun hq => ?_)) <;> (try (exfalso; omega)) <;> (conv => whnf)) | ((with_reducible refine branch_n (fun hq => ?_) (fun hq => ?_)) <;> (try (exfalso; omega)) <;> (conv => whnf)) | ((with_reducible refine branch_i (fun hq => ?_) (fun hq => ?_)) <;> (try (exfalso; omega)) <;> (conv => whnf))))
        exact ret_p rfl rfl
end Go.Proofs.Ytpmoflggmdfmnaa
end

/- From a contract of the interpreter to a law's call: any arguments; slices of strings. -/
section
namespace Go.Proofs.Ytpmoflggmdfmnaa
set_option linter.unusedVariables false
set_option linter.unusedSimpArgs false
set_option linter.unnecessarySimpa false
set_option linter.unusedSectionVars false
open Go.RowKit

theorem law_all {f : Nat} {args : List AV} (hG : Good Try.prog TT false f args (· = .bool true)) {w : World} {us : List Value} (h : All2 (RepV w No) args us) :
    Calls Try.prog f us.toArray w (fun e w' => e = .returned (.bool true) ∧ Chg No w w') := by
  have hx : ∀ b, GX (G0 none No (none, 0, 0)) b → False := fun b hb => by rcases hb with hb | hb <;> simp_all [GM, G0, No]
  refine Calls.mono (hG.2 w No none us (none, 0, 0) (fun b hb => absurd hb no_) rfl (h.mono fun v u hr => RC.ra (RepV.rc (RepV.move hr (fun _ _ _ => rfl) fun b _ hb => (hx b hb).elim))) nofun) ?_
  rintro e w' ⟨u, r, rfl, rfl, hr, hc, -⟩
  have hu : RepV w' (GX (G0 none No (none, 0, 0))) (.bool true) u := hr
  cases hu
  exact ⟨rfl, hc.mono fun b _ hb => by cases hb⟩
theorem ints_row {w : World} {a : Option Addr} {len cap : Nat} {zs : List Int} (h : Ints w No a len cap zs) : RepV w No (ints zs) (.slice a len cap) := ints_rep h
theorem u8_in {a : Int} (h : (Lit.int .u8 a).wf = true) : 0 ≤ a ∧ a ≤ 255 := by
  simp [Lit.wf, IntKind.min, IntKind.max, IntKind.bits, IntKind.signed] at h
  omega
end Go.Proofs.Ytpmoflggmdfmnaa
end
