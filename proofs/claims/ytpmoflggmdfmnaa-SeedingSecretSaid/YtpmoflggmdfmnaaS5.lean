/- Several texts in one: GL26b, GL26c, GL26l, GL26d, SrtM, Shl, GL26e, GL26f, GL26g, GL26h, GL26i, GL25x. -/
import Derived.Test.YtpmoflggmdfmnaaS4
import Derived.Test.YtpmoflggmdfmnaaS1
import Derived.Shelf.Sort.Plain
import Derived.Shelf.Slices.In.SortNone
import Derived.Shelf.Slices.Reverse
import Derived.Sort.OwnSortedInts
import Derived.Shelf.Slices.CompactI
/- Layer 26: a script by its number, what a marker sees, merged lists: of the program. -/
section
namespace Go.Proofs.Ytpmoflggmdfmnaa
set_option linter.unusedVariables false
set_option linter.unusedSimpArgs false
set_option linter.unnecessarySimpa false
set_option linter.unusedSectionVars false
set_option maxRecDepth 10000
open Go.RowKit
def plGL26b_0 : Plan := (.take 0 (.take 1 (.take 2 (.take 3 (.take 4 (.take 5 (.take 6 (.alt 7 (.take 8 (.alt 9 .done .stop)) .stop))))))))
def plGL26b_1 : Plan := (.take 0 (.take 1 (.take 3 (.take 5 (.alt 2 (.alt 4 (.alt 6 (.alt 7 (.take 8 (.alt 9 .done .stop)) .stop) .stop) (.alt 6 (.alt 4 (.alt 7 (.take 8 (.alt 9 .done .stop)) .stop) (.alt 7 (.alt 4 (.take 8 (.alt 9 .done .stop)) .stop) .stop)) .stop)) (.alt 4 (.alt 2 (.alt 6 (.alt 7 (.take 8 (.alt 9 .done .stop)) .stop) .stop) (.alt 6 (.alt 2 (.alt 7 (.take 8 (.alt 9 .done .stop)) .stop) (.alt 7 (.alt 2 (.take 8 (.alt 9 .done .stop)) .stop) .stop)) .stop)) (.alt 6 (.alt 2 (.alt 4 (.alt 7 (.take 8 (.alt 9 .done .stop)) .stop) (.alt 7 (.alt 4 (.take 8 (.alt 9 .done .stop)) .stop) .stop)) (.alt 4 (.alt 2 (.alt 7 (.take 8 (.alt 9 .done .stop)) .stop) (.alt 7 (.alt 2 (.take 8 (.alt 9 .done .stop)) .stop) .stop)) (.alt 7 (.alt 2 (.alt 4 (.take 8 (.alt 9 .done .stop)) .stop) (.alt 4 (.alt 2 (.take 8 (.alt 9 .done .stop)) .stop) .stop)) .stop))) .stop)))))))
def plGL26b_3 : Plan := (.take 0 (.take 1 (.take 2 (.take 3 (.take 4 (.take 5 (.take 6 (.take 7 (.take 8 (.take 9 (.take 10 (.take 11 (.take 12 (.take 13 (.take 14 (.take 15 (.take 16 (.take 17 (.take 18 (.take 19 (.take 20 (.take 21 .done))))))))))))))))))))))
def plGL26b_4 : Plan := (.take 0 (.take 1 (.take 2 (.take 3 (.take 4 (.take 5 (.take 6 (.take 7 (.take 8 (.take 9 (.take 10 (.take 11 (.take 12 (.take 14 (.take 15 (.take 16 (.alt 13 (.alt 17 (.take 18 (.take 19 (.take 20 (.take 21 .done)))) .stop) (.alt 17 (.alt 13 (.take 18 (.take 19 (.take 20 (.take 21 .done)))) .stop) .stop))))))))))))))))))
def plGL26b_5 : Plan := (.take 0 (.take 1 (.take 2 (.take 3 (.take 4 (.take 5 (.take 6 (.take 7 (.take 8 (.take 9 (.take 10 (.take 11 (.take 12 (.take 13 (.take 14 (.take 15 .done))))))))))))))))
def plGL26b_6 : Plan := (.take 0 (.take 1 (.take 2 (.take 3 (.take 4 (.take 5 (.take 6 (.take 7 (.take 9 (.take 10 (.take 11 (.alt 8 (.alt 12 (.take 13 (.take 14 (.take 15 .done))) .stop) (.alt 12 (.alt 8 (.take 13 (.take 14 (.take 15 .done))) .stop) .stop)))))))))))))
theorem find1_ok (x : Scr) (n : Int) : Good Try.prog TT false 100 [.agg (encR x), .int .i64 n] (· = .int .i64 (cmpI x.number n)) := by
  refine good_of mixed tabOk Try.func100 rfl rfl Try.ntmps100 Try.results100 rfl rfl ?_
  (conv => whnf); (repeat' (first | (refine arith_i ⟨by omega, by omega⟩ ?_; conv => whnf) | (refine arith_u ⟨by omega, by omega⟩ ?_; conv => whnf) | (refine arith_8 ⟨by omega, by omega⟩ ?_; conv => whnf) | (refine need_i (by first | omega | (simp only [List.length_cons, List.length_nil]; omega) | (simp only [List.length_append, List.length_cons, List.length_nil, List.length_map, List.length_replicate, List.length_modify]; omega)) ?_; conv => whnf) | ((with_reducible refine branch_tt ?_); conv => whnf) | ((with_reducible refine branch_ff ?_); conv => whnf) | (with_reducible refine branch_not ?_) | ((refine call_e (compare_ok x.number n) ?_); conv => whnf) | ((with_reducible refine slc_e ?_); conv => whnf) | ((with_reducible refine callS_a ?_); conv => whnf) | ((with_reducible refine bld_a ?_); conv => whnf) | ((with_reducible refine own_e ?_); conv => whnf) | ((with_reducible refine mkmap_b ?_); conv => whnf) | ((with_reducible refine branch_d (fun hq => ?_) (fun hq => ?_)) <;> (try (exfalso; omega)) <;> (conv => whnf)) | ((with_reducible refine branch_e (fun hq => ?_) (fun hq => ?_)) <;> (try (exfalso; omega)) <;> (conv => whnf)) | ((with_reducible refine branch_n (fun hq => ?_) (fun hq => ?_)) <;> (try (exfalso; omega)) <;> (conv => whnf)) | ((with_reducible refine branch_i (fun hq => ?_) (fun hq => ?_)) <;> (try (exfalso; omega)) <;> (conv => whnf))))
  all_goals first | exact ret_p rfl rfl
set_option maxHeartbeats 4000000 in
theorem bsearch26_ok (s : List Scr) (n : Int) (hs : ScsOk s) : Good Try.prog TT false 90 [scrsV s, .int .i64 n, .fn 100 []] (IdxR s n) := by
  have LS : (s.map encR).length = s.length := List.length_map ..
  have h60 := hs.len
  refine good_of mixed tabOk Try.func90 rfl rfl Try.ntmps90 Try.results90 rfl rfl ?_
  (conv => whnf); (repeat' (first | (refine arith_i ⟨by omega, by omega⟩ ?_; conv => whnf) | (refine arith_u ⟨by omega, by omega⟩ ?_; conv => whnf) | (refine arith_8 ⟨by omega, by omega⟩ ?_; conv => whnf) | (refine need_i (by first | omega | (simp only [List.length_cons, List.length_nil]; omega) | (simp only [List.length_append, List.length_cons, List.length_nil, List.length_map, List.length_replicate, List.length_modify]; omega)) ?_; conv => whnf) | ((with_reducible refine branch_tt ?_); conv => whnf) | ((with_reducible refine branch_ff ?_); conv => whnf) | (with_reducible refine branch_not ?_) | ((with_reducible refine slc_e ?_); conv => whnf) | ((with_reducible refine callS_a ?_); conv => whnf) | ((with_reducible refine bld_a ?_); conv => whnf) | ((with_reducible refine own_e ?_); conv => whnf) | ((with_reducible refine mkmap_b ?_); conv => whnf) | ((with_reducible refine branch_d (fun hq => ?_) (fun hq => ?_)) <;> (try (exfalso; omega)) <;> (conv => whnf)) | ((with_reducible refine branch_e (fun hq => ?_) (fun hq => ?_)) <;> (try (exfalso; omega)) <;> (conv => whnf)) | ((with_reducible refine branch_n (fun hq => ?_) (fun hq => ?_)) <;> (try (exfalso; omega)) <;> (conv => whnf)) | ((with_reducible refine branch_i (fun hq => ?_) (fun hq => ?_)) <;> (try (exfalso; omega)) <;> (conv => whnf))))
  refine loop_i2 (fun i j : Nat => i ≤ j ∧ j ≤ s.length ∧ (∀ (k : Nat) (x : Scr), k < i → s[k]? = some x → x.number < n) ∧ ∀ (k : Nat) (x : Scr), j ≤ k → s[k]? = some x → n ≤ x.number) (fun i j => mkSt [(0, scrsV s), (1, .int .i64 n), (2, .fn 100 []), (8, .int .i64 s.length), (9, .int .i64 i), (10, .int .i64 j)] [] false) (fun i j => j - i) 0 s.length ⟨Nat.zero_le _, Nat.le_refl _, nofun, fun k x hk hx => absurd (List.getElem?_eq_some_iff.1 hx).1 (by omega)⟩ (le_mk ⟨rfl, rfl, rfl, int_eq (by rw [LS]), rfl, int_eq (by rw [LS]), trivial⟩ trivial rfl) ?_
  rintro i j ⟨hij, hj, hlo, hhi⟩
  rcases Nat.lt_or_ge i j with hil | hil
  · have hsh := half_eq i j
    obtain ⟨x, hx⟩ : ∃ x, s[(i + j) / 2]? = some x := ⟨_, List.getElem?_eq_getElem (by omega)⟩
    (conv => whnf); (repeat' (first | (refine arith_i ⟨by omega, by omega⟩ ?_; conv => whnf) | (refine arith_u ⟨by omega, by omega⟩ ?_; conv => whnf) | (refine arith_8 ⟨by omega, by omega⟩ ?_; conv => whnf) | (refine need_i (by first | omega | (simp only [List.length_cons, List.length_nil]; omega) | (simp only [List.length_append, List.length_cons, List.length_nil, List.length_map, List.length_replicate, List.length_modify]; omega)) ?_; conv => whnf) | ((with_reducible refine branch_tt ?_); conv => whnf) | ((with_reducible refine branch_ff ?_); conv => whnf) | (with_reducible refine branch_not ?_) | (((rw [hsh]; refine arith_i ⟨by omega, by omega⟩ ?_)); conv => whnf) | (((rw [hsh]; refine idx_cs hx ?_)); conv => whnf) | ((refine call_e (find1_ok x n) ?_); conv => whnf) | ((with_reducible refine slc_e ?_); conv => whnf) | ((with_reducible refine callS_a ?_); conv => whnf) | ((with_reducible refine bld_a ?_); conv => whnf) | ((with_reducible refine own_e ?_); conv => whnf) | ((with_reducible refine mkmap_b ?_); conv => whnf) | ((with_reducible refine branch_d (fun hq => ?_) (fun hq => ?_)) <;> (try (exfalso; omega)) <;> (conv => whnf)) | ((with_reducible refine branch_e (fun hq => ?_) (fun hq => ?_)) <;> (try (exfalso; omega)) <;> (conv => whnf)) | ((with_reducible refine branch_n (fun hq => ?_) (fun hq => ?_)) <;> (try (exfalso; omega)) <;> (conv => whnf)) | ((with_reducible refine branch_i (fun hq => ?_) (fun hq => ?_)) <;> (try (exfalso; omega)) <;> (conv => whnf))))
    · refine ⟨(i + j) / 2 + 1, j, ⟨by omega, hj, fun k y hk hy => ?_, hhi⟩, le_mk ⟨rfl, rfl, rfl, rfl, int_eq (by omega), rfl, trivial⟩ trivial rfl, by omega⟩
      have hxn := cmp_lt.1 hq
      rcases Nat.lt_or_ge k ((i + j) / 2) with hk2 | hk2
      · have := asc_lt hs.asc hy hx hk2; omega
      · obtain rfl : k = (i + j) / 2 := by omega
        rw [hx] at hy; injection hy with hy; rw [← hy]; exact hxn
    · refine ⟨i, (i + j) / 2, ⟨by omega, by omega, hlo, fun k y hk hy => ?_⟩, le_mk ⟨rfl, rfl, rfl, rfl, rfl, rfl, trivial⟩ trivial rfl, by omega⟩
      have hxn : ¬ x.number < n := fun h => hq (cmp_lt.2 h)
      rcases Nat.lt_or_ge ((i + j) / 2) k with hk2 | hk2
      · have := asc_lt hs.asc hx hy hk2; omega
      · obtain rfl : k = (i + j) / 2 := by omega
        rw [hx] at hy; injection hy with hy; rw [← hy]; omega
  · obtain rfl : i = j := by omega
    rcases Nat.lt_or_ge i s.length with hl | hl
    · obtain ⟨x, hx⟩ : ∃ x, s[i]? = some x := ⟨_, List.getElem?_eq_getElem hl⟩
      (conv => whnf); (repeat' (first | (refine arith_i ⟨by omega, by omega⟩ ?_; conv => whnf) | (refine arith_u ⟨by omega, by omega⟩ ?_; conv => whnf) | (refine arith_8 ⟨by omega, by omega⟩ ?_; conv => whnf) | (refine need_i (by first | omega | (simp only [List.length_cons, List.length_nil]; omega) | (simp only [List.length_append, List.length_cons, List.length_nil, List.length_map, List.length_replicate, List.length_modify]; omega)) ?_; conv => whnf) | ((with_reducible refine branch_tt ?_); conv => whnf) | ((with_reducible refine branch_ff ?_); conv => whnf) | (with_reducible refine branch_not ?_) | ((refine idx_cs hx ?_); conv => whnf) | ((refine call_e (find1_ok x n) ?_); conv => whnf) | ((with_reducible refine slc_e ?_); conv => whnf) | ((with_reducible refine callS_a ?_); conv => whnf) | ((with_reducible refine bld_a ?_); conv => whnf) | ((with_reducible refine own_e ?_); conv => whnf) | ((with_reducible refine mkmap_b ?_); conv => whnf) | ((with_reducible refine branch_d (fun hq => ?_) (fun hq => ?_)) <;> (try (exfalso; omega)) <;> (conv => whnf)) | ((with_reducible refine branch_e (fun hq => ?_) (fun hq => ?_)) <;> (try (exfalso; omega)) <;> (conv => whnf)) | ((with_reducible refine branch_n (fun hq => ?_) (fun hq => ?_)) <;> (try (exfalso; omega)) <;> (conv => whnf)) | ((with_reducible refine branch_i (fun hq => ?_) (fun hq => ?_)) <;> (try (exfalso; omega)) <;> (conv => whnf))))
      by_cases hn : x.number = n
      · have e : (cmpI x.number n == 0) = true := by rw [beq_iff_eq]; exact cmp_eq.2 hn
        exact ret_t (rs := [.int .i64 i, .bool (cmpI x.number n == 0)]) ⟨(rc_p rfl).g, (rc_p rfl).g, trivial⟩ (by rw [e]; unfold IdxR; rw [idx_some hlo hx hn])
      · have e : (cmpI x.number n == 0) = false := by rw [beq_eq_false_iff_ne]; exact fun h => hn (cmp_eq.1 h)
        exact ret_t (rs := [.int .i64 i, .bool (cmpI x.number n == 0)]) ⟨(rc_p rfl).g, (rc_p rfl).g, trivial⟩ (by rw [e]; exact idx_none hs.asc hlo hhi fun y hy => by rw [hx] at hy; injection hy with hy; rw [← hy]; exact hn)
    · (conv => whnf); (repeat' (first | (refine arith_i ⟨by omega, by omega⟩ ?_; conv => whnf) | (refine arith_u ⟨by omega, by omega⟩ ?_; conv => whnf) | (refine arith_8 ⟨by omega, by omega⟩ ?_; conv => whnf) | (refine need_i (by first | omega | (simp only [List.length_cons, List.length_nil]; omega) | (simp only [List.length_append, List.length_cons, List.length_nil, List.length_map, List.length_replicate, List.length_modify]; omega)) ?_; conv => whnf) | ((with_reducible refine branch_tt ?_); conv => whnf) | ((with_reducible refine branch_ff ?_); conv => whnf) | (with_reducible refine branch_not ?_) | ((with_reducible refine slc_e ?_); conv => whnf) | ((with_reducible refine callS_a ?_); conv => whnf) | ((with_reducible refine bld_a ?_); conv => whnf) | ((with_reducible refine own_e ?_); conv => whnf) | ((with_reducible refine mkmap_b ?_); conv => whnf) | ((with_reducible refine branch_d (fun hq => ?_) (fun hq => ?_)) <;> (try (exfalso; omega)) <;> (conv => whnf)) | ((with_reducible refine branch_e (fun hq => ?_) (fun hq => ?_)) <;> (try (exfalso; omega)) <;> (conv => whnf)) | ((with_reducible refine branch_n (fun hq => ?_) (fun hq => ?_)) <;> (try (exfalso; omega)) <;> (conv => whnf)) | ((with_reducible refine branch_i (fun hq => ?_) (fun hq => ?_)) <;> (try (exfalso; omega)) <;> (conv => whnf))))
      exact ret_t (rs := [.int .i64 i, .bool false]) ⟨(rc_p rfl).g, (rc_p rfl).g, trivial⟩ (idx_none hs.asc hlo hhi (fun x hx => absurd (List.getElem?_eq_some_iff.1 hx).1 (by omega)))
theorem sFind_ok (s : List Scr) (n : Int) (hs : ScsOk s) : Good Try.prog TT false 72 [scrsV s, .int .i64 n] (ScriptR s n) := by
  have LS : (s.map encR).length = s.length := List.length_map ..
  cases hf : findS s n with
  | some i =>
    obtain ⟨x, hx, hn⟩ := findS_at hf
    refine good_of mixed tabOk Try.func72 rfl rfl Try.ntmps72 Try.results72 rfl rfl ?_
    (conv => whnf); (repeat' (first | (refine arith_i ⟨by omega, by omega⟩ ?_; conv => whnf) | (refine arith_u ⟨by omega, by omega⟩ ?_; conv => whnf) | (refine arith_8 ⟨by omega, by omega⟩ ?_; conv => whnf) | (refine need_i (by first | omega | (simp only [List.length_cons, List.length_nil]; omega) | (simp only [List.length_append, List.length_cons, List.length_nil, List.length_map, List.length_replicate, List.length_modify]; omega)) ?_; conv => whnf) | ((with_reducible refine branch_tt ?_); conv => whnf) | ((with_reducible refine branch_ff ?_); conv => whnf) | (with_reducible refine branch_not ?_) | ((refine call_e ((bsearch26_ok s n hs).mono fun r h => (by unfold IdxR at h; rw [hf] at h; exact h : r = .tup [.int .i64 i, .bool true])) ?_); conv => whnf) | ((refine idx_cs hx ?_); conv => whnf) | ((with_reducible refine slc_e ?_); conv => whnf) | ((with_reducible refine callS_a ?_); conv => whnf) | ((with_reducible refine bld_a ?_); conv => whnf) | ((with_reducible refine own_e ?_); conv => whnf) | ((with_reducible refine mkmap_b ?_); conv => whnf) | ((with_reducible refine branch_d (fun hq => ?_) (fun hq => ?_)) <;> (try (exfalso; omega)) <;> (conv => whnf)) | ((with_reducible refine branch_e (fun hq => ?_) (fun hq => ?_)) <;> (try (exfalso; omega)) <;> (conv => whnf)) | ((with_reducible refine branch_n (fun hq => ?_) (fun hq => ?_)) <;> (try (exfalso; omega)) <;> (conv => whnf)) | ((with_reducible refine branch_i (fun hq => ?_) (fun hq => ?_)) <;> (try (exfalso; omega)) <;> (conv => whnf))))
    exact ret_t (rs := [.agg (encR x), .bool true]) ⟨.inr ⟨_, _, rfl, rfl, rc_p rfl, rc_p rfl, rc_p rfl, rc_p rfl, rc_p rfl, rc_p rfl, rc_p rfl, trivial⟩, (rc_p rfl).g, trivial⟩ (by unfold ScriptR; rw [hf]; exact ⟨x, hx, rfl⟩)
  | none =>
    refine good_of mixed tabOk Try.func72 rfl rfl Try.ntmps72 Try.results72 rfl rfl ?_
    (conv => whnf); (repeat' (first | (refine arith_i ⟨by omega, by omega⟩ ?_; conv => whnf) | (refine arith_u ⟨by omega, by omega⟩ ?_; conv => whnf) | (refine arith_8 ⟨by omega, by omega⟩ ?_; conv => whnf) | (refine need_i (by first | omega | (simp only [List.length_cons, List.length_nil]; omega) | (simp only [List.length_append, List.length_cons, List.length_nil, List.length_map, List.length_replicate, List.length_modify]; omega)) ?_; conv => whnf) | ((with_reducible refine branch_tt ?_); conv => whnf) | ((with_reducible refine branch_ff ?_); conv => whnf) | (with_reducible refine branch_not ?_) | (((refine call_i (bsearch26_ok s n hs) fun r h => ?_; unfold IdxR at h; rw [hf] at h; obtain ⟨i, rfl⟩ := h)); conv => whnf) | ((with_reducible refine slc_e ?_); conv => whnf) | ((with_reducible refine callS_a ?_); conv => whnf) | ((with_reducible refine bld_a ?_); conv => whnf) | ((with_reducible refine own_e ?_); conv => whnf) | ((with_reducible refine mkmap_b ?_); conv => whnf) | ((with_reducible refine branch_d (fun hq => ?_) (fun hq => ?_)) <;> (try (exfalso; omega)) <;> (conv => whnf)) | ((with_reducible refine branch_e (fun hq => ?_) (fun hq => ?_)) <;> (try (exfalso; omega)) <;> (conv => whnf)) | ((with_reducible refine branch_n (fun hq => ?_) (fun hq => ?_)) <;> (try (exfalso; omega)) <;> (conv => whnf)) | ((with_reducible refine branch_i (fun hq => ?_) (fun hq => ?_)) <;> (try (exfalso; omega)) <;> (conv => whnf))))
    exact ret_t (rs := [scr0R, .bool false]) ⟨.inr ⟨_, _, rfl, rfl, rc_p rfl, rc_p rfl, rc_p rfl, rc_p rfl, rc_p rfl, rc_n, rc_n, trivial⟩, (rc_p rfl).g, trivial⟩ (by unfold ScriptR; rw [hf])
def viewV (s : Scr) (place : Int) : AV := .agg [.int .i64 place, .int .i64 s.paper, .int .i64 s.variant, ints s.pages]
theorem see_ok (s : Scr) (place : Int) (hp : s.pages.length ≤ 1000000) : Good Try.prog TT false 40 [.agg (encR s), .int .i64 place] (· = viewV s place) := by
  refine good_of mixed tabOk Try.func40 rfl rfl Try.ntmps40 Try.results40 rfl rfl ?_
  (conv => whnf); (repeat' (first | (refine arith_i ⟨by omega, by omega⟩ ?_; conv => whnf) | (refine arith_u ⟨by omega, by omega⟩ ?_; conv => whnf) | (refine arith_8 ⟨by omega, by omega⟩ ?_; conv => whnf) | (refine need_i (by first | omega | (simp only [List.length_cons, List.length_nil]; omega) | (simp only [List.length_append, List.length_cons, List.length_nil, List.length_map, List.length_replicate, List.length_modify]; omega)) ?_; conv => whnf) | ((with_reducible refine branch_tt ?_); conv => whnf) | ((with_reducible refine branch_ff ?_); conv => whnf) | (with_reducible refine branch_not ?_) | ((refine call_e (clone_ok s.pages hp) ?_); conv => whnf) | ((with_reducible refine slc_e ?_); conv => whnf) | ((with_reducible refine callS_a ?_); conv => whnf) | ((with_reducible refine bld_a ?_); conv => whnf) | ((with_reducible refine own_e ?_); conv => whnf) | ((with_reducible refine mkmap_b ?_); conv => whnf) | (refine draw_i 9 plGL26b_0 (by decide +kernel) ?_; (conv => whnf); fail_if_success (guard_target =~ False)) | (refine draw_i 9 plGL26b_1 (by decide +kernel) ?_; (conv => whnf); fail_if_success (guard_target =~ False)) | ((with_reducible refine And.intro ?_ ?_) <;> (conv => whnf)) | (with_reducible exact trivial) | ((with_reducible refine branch_d (fun hq => ?_) (fun hq => ?_)) <;> (try (exfalso; omega)) <;> (conv => whnf)) | ((with_reducible refine branch_e (fun hq => ?_) (fun hq => ?_)) <;> (try (exfalso; omega)) <;> (conv => whnf)) | ((with_reducible refine branch_n (fun hq => ?_) (fun hq => ?_)) <;> (try (exfalso; omega)) <;> (conv => whnf)) | ((with_reducible refine branch_i (fun hq => ?_) (fun hq => ?_)) <;> (try (exfalso; omega)) <;> (conv => whnf))))
  exact ret_a (cs' := [.int .i64 place, .int .i64 s.paper, .int .i64 s.variant, ints s.pages]) ⟨rc_p rfl, rc_p rfl, rc_p rfl, rc_o, trivial⟩ rfl
def mergeF : List Int → List Int → List Int
  | [], vs => vs
  | a :: us, [] => a :: us
  | a :: us, b :: vs => if a < b then a :: mergeF us (b :: vs) else if b < a then b :: mergeF (a :: us) vs else a :: mergeF us vs
termination_by us vs => us.length + vs.length
theorem merge_nil {us : List Int} : mergeF us [] = us := by cases us <;> simp [mergeF]
theorem merge_nil2 {vs : List Int} : mergeF [] vs = vs := by simp [mergeF]
theorem merge_len : ∀ (us vs : List Int), (mergeF us vs).length ≤ us.length + vs.length
  | [], vs => by simp [mergeF]
  | a :: us, [] => by simp [mergeF]
  | a :: us, b :: vs => by
    rw [mergeF]
    have h1 := merge_len us (b :: vs)
    have h2 := merge_len (a :: us) vs
    have h3 := merge_len us vs
    simp only [List.length_cons] at h1 h2 h3 ⊢
    split
    · simp only [List.length_cons]; omega
    · split <;> simp only [List.length_cons] <;> omega
termination_by us vs => us.length + vs.length
set_option maxHeartbeats 4000000 in
theorem merged_ok (a b : List Int) (ha : a.length ≤ 1000) (hb : b.length ≤ 1000) : Good Try.prog TT false 99 [ints a, ints b] (· = .own 0 3 1 ((mergeF a b).map encI)) := by
  have LA : (a.map encI).length = a.length := List.length_map ..
  have LB : (b.map encI).length = b.length := List.length_map ..
  refine good_of mixed tabOk Try.func99 rfl rfl Try.ntmps99 Try.results99 rfl rfl ?_
  (conv => whnf); (repeat' (first | (refine arith_i ⟨by omega, by omega⟩ ?_; conv => whnf) | (refine arith_u ⟨by omega, by omega⟩ ?_; conv => whnf) | (refine arith_8 ⟨by omega, by omega⟩ ?_; conv => whnf) | (refine need_i (by first | omega | (simp only [List.length_cons, List.length_nil]; omega) | (simp only [List.length_append, List.length_cons, List.length_nil, List.length_map, List.length_replicate, List.length_modify]; omega)) ?_; conv => whnf) | ((with_reducible refine branch_tt ?_); conv => whnf) | ((with_reducible refine branch_ff ?_); conv => whnf) | (with_reducible refine branch_not ?_) | ((with_reducible refine slc_e ?_); conv => whnf) | ((with_reducible refine callS_a ?_); conv => whnf) | ((with_reducible refine bld_a ?_); conv => whnf) | ((with_reducible refine own_e ?_); conv => whnf) | ((with_reducible refine mkmap_b ?_); conv => whnf) | (refine draw_i 22 plGL26b_3 (by decide +kernel) ?_; (conv => whnf); fail_if_success (guard_target =~ False)) | (refine draw_i 22 plGL26b_4 (by decide +kernel) ?_; (conv => whnf); fail_if_success (guard_target =~ False)) | (refine draw_i 16 plGL26b_5 (by decide +kernel) ?_; (conv => whnf); fail_if_success (guard_target =~ False)) | (refine draw_i 16 plGL26b_6 (by decide +kernel) ?_; (conv => whnf); fail_if_success (guard_target =~ False)) | ((with_reducible refine And.intro ?_ ?_) <;> (conv => whnf)) | (with_reducible exact trivial) | ((with_reducible refine branch_d (fun hq => ?_) (fun hq => ?_)) <;> (try (exfalso; omega)) <;> (conv => whnf)) | ((with_reducible refine branch_e (fun hq => ?_) (fun hq => ?_)) <;> (try (exfalso; omega)) <;> (conv => whnf)) | ((with_reducible refine branch_n (fun hq => ?_) (fun hq => ?_)) <;> (try (exfalso; omega)) <;> (conv => whnf)) | ((with_reducible refine branch_i (fun hq => ?_) (fun hq => ?_)) <;> (try (exfalso; omega)) <;> (conv => whnf))))
  refine loop_i3 (fun (i j : Nat) (out : List Int) => i ≤ a.length ∧ j ≤ b.length ∧ out ++ mergeF (a.drop i) (b.drop j) = mergeF a b ∧ out.length ≤ i + j) (fun i j out => mkSt [(0, ints a), (1, ints b), (5, .own 200 3 1 (out.map encI)), (6, .int .i64 i), (7, .int .i64 j)] [] false) (fun i j _ => a.length - i + (b.length - j)) 0 0 [] ⟨Nat.zero_le _, Nat.zero_le _, rfl, Nat.le_refl _⟩ (Le.trans (le_adopt 5 200 3 1 rfl) (le_mk ⟨rfl, rfl, rfl, rfl, rfl, trivial⟩ trivial rfl)) ?_
  rintro i j out ⟨hi, hj, ho, hl⟩
  have LO : (out.map encI).length = out.length := List.length_map ..
  have snoc : ∀ x : Int, (out ++ [x]).map encI = out.map encI ++ [[.int .i64 x]] := fun x => by rw [List.map_append]; rfl
  rcases Nat.lt_or_ge i a.length with hil | hil
  · obtain ⟨x, hx⟩ : ∃ x, a[i]? = some x := ⟨_, List.getElem?_eq_getElem hil⟩
    rcases Nat.lt_or_ge j b.length with hjl | hjl
    · obtain ⟨y, hy⟩ : ∃ y, b[j]? = some y := ⟨_, List.getElem?_eq_getElem hjl⟩
      rw [drop_at hx, drop_at hy, mergeF, ← drop_at hx, ← drop_at hy] at ho
      rcases Int.lt_trichotomy x y with g | g | g
      · rw [if_pos g] at ho
        (conv => whnf); (repeat' (first | (refine arith_i ⟨by omega, by omega⟩ ?_; conv => whnf) | (refine arith_u ⟨by omega, by omega⟩ ?_; conv => whnf) | (refine arith_8 ⟨by omega, by omega⟩ ?_; conv => whnf) | (refine need_i (by first | omega | (simp only [List.length_cons, List.length_nil]; omega) | (simp only [List.length_append, List.length_cons, List.length_nil, List.length_map, List.length_replicate, List.length_modify]; omega)) ?_; conv => whnf) | ((with_reducible refine branch_tt ?_); conv => whnf) | ((with_reducible refine branch_ff ?_); conv => whnf) | (with_reducible refine branch_not ?_) | ((refine idx_cs hx ?_); conv => whnf) | ((refine idx_cs hy ?_); conv => whnf) | ((with_reducible refine slc_e ?_); conv => whnf) | ((with_reducible refine callS_a ?_); conv => whnf) | ((with_reducible refine bld_a ?_); conv => whnf) | ((with_reducible refine own_e ?_); conv => whnf) | ((with_reducible refine mkmap_b ?_); conv => whnf) | (refine draw_i 22 plGL26b_3 (by decide +kernel) ?_; (conv => whnf); fail_if_success (guard_target =~ False)) | (refine draw_i 22 plGL26b_4 (by decide +kernel) ?_; (conv => whnf); fail_if_success (guard_target =~ False)) | (refine draw_i 16 plGL26b_5 (by decide +kernel) ?_; (conv => whnf); fail_if_success (guard_target =~ False)) | (refine draw_i 16 plGL26b_6 (by decide +kernel) ?_; (conv => whnf); fail_if_success (guard_target =~ False)) | ((with_reducible refine And.intro ?_ ?_) <;> (conv => whnf)) | (with_reducible exact trivial) | ((with_reducible refine branch_d (fun hq => ?_) (fun hq => ?_)) <;> (try (exfalso; omega)) <;> (conv => whnf)) | ((with_reducible refine branch_e (fun hq => ?_) (fun hq => ?_)) <;> (try (exfalso; omega)) <;> (conv => whnf)) | ((with_reducible refine branch_n (fun hq => ?_) (fun hq => ?_)) <;> (try (exfalso; omega)) <;> (conv => whnf)) | ((with_reducible refine branch_i (fun hq => ?_) (fun hq => ?_)) <;> (try (exfalso; omega)) <;> (conv => whnf))))
        exact ⟨i + 1, j, out ++ [x], ⟨by omega, hj, by rw [← ho]; simp, by simp; omega⟩, by rw [snoc]; exact (le_mk (by repeat' (first | exact trivial | rfl | apply And.intro)) (by repeat' (first | exact trivial | rfl | apply And.intro)) rfl), by omega⟩
      · rw [if_neg (by omega), if_neg (by omega)] at ho
        (conv => whnf); (repeat' (first | (refine arith_i ⟨by omega, by omega⟩ ?_; conv => whnf) | (refine arith_u ⟨by omega, by omega⟩ ?_; conv => whnf) | (refine arith_8 ⟨by omega, by omega⟩ ?_; conv => whnf) | (refine need_i (by first | omega | (simp only [List.length_cons, List.length_nil]; omega) | (simp only [List.length_append, List.length_cons, List.length_nil, List.length_map, List.length_replicate, List.length_modify]; omega)) ?_; conv => whnf) | ((with_reducible refine branch_tt ?_); conv => whnf) | ((with_reducible refine branch_ff ?_); conv => whnf) | (with_reducible refine branch_not ?_) | ((refine idx_cs hx ?_); conv => whnf) | ((refine idx_cs hy ?_); conv => whnf) | ((with_reducible refine slc_e ?_); conv => whnf) | ((with_reducible refine callS_a ?_); conv => whnf) | ((with_reducible refine bld_a ?_); conv => whnf) | ((with_reducible refine own_e ?_); conv => whnf) | ((with_reducible refine mkmap_b ?_); conv => whnf) | (refine draw_i 22 plGL26b_3 (by decide +kernel) ?_; (conv => whnf); fail_if_success (guard_target =~ False)) | (refine draw_i 22 plGL26b_4 (by decide +kernel) ?_; (conv => whnf); fail_if_success (guard_target =~ False)) | (refine draw_i 16 plGL26b_5 (by decide +kernel) ?_; (conv => whnf); fail_if_success (guard_target =~ False)) | (refine draw_i 16 plGL26b_6 (by decide +kernel) ?_; (conv => whnf); fail_if_success (guard_target =~ False)) | ((with_reducible refine And.intro ?_ ?_) <;> (conv => whnf)) | (with_reducible exact trivial) | ((with_reducible refine branch_d (fun hq => ?_) (fun hq => ?_)) <;> (try (exfalso; omega)) <;> (conv => whnf)) | ((with_reducible refine branch_e (fun hq => ?_) (fun hq => ?_)) <;> (try (exfalso; omega)) <;> (conv => whnf)) | ((with_reducible refine branch_n (fun hq => ?_) (fun hq => ?_)) <;> (try (exfalso; omega)) <;> (conv => whnf)) | ((with_reducible refine branch_i (fun hq => ?_) (fun hq => ?_)) <;> (try (exfalso; omega)) <;> (conv => whnf))))
        exact ⟨i + 1, j + 1, out ++ [x], ⟨by omega, by omega, by rw [← ho]; simp, by simp; omega⟩, by rw [snoc]; exact (le_mk (by repeat' (first | exact trivial | rfl | apply And.intro)) (by repeat' (first | exact trivial | rfl | apply And.intro)) rfl), by omega⟩
      · rw [if_neg (by omega), if_pos g] at ho
        (conv => whnf); (repeat' (first | (refine arith_i ⟨by omega, by omega⟩ ?_; conv => whnf) | (refine arith_u ⟨by omega, by omega⟩ ?_; conv => whnf) | (refine arith_8 ⟨by omega, by omega⟩ ?_; conv => whnf) | (refine need_i (by first | omega | (simp only [List.length_cons, List.length_nil]; omega) | (simp only [List.length_append, List.length_cons, List.length_nil, List.length_map, List.length_replicate, List.length_modify]; omega)) ?_; conv => whnf) | ((with_reducible refine branch_tt ?_); conv => whnf) | ((with_reducible refine branch_ff ?_); conv => whnf) | (with_reducible refine branch_not ?_) | ((refine idx_cs hx ?_); conv => whnf) | ((refine idx_cs hy ?_); conv => whnf) | ((with_reducible refine slc_e ?_); conv => whnf) | ((with_reducible refine callS_a ?_); conv => whnf) | ((with_reducible refine bld_a ?_); conv => whnf) | ((with_reducible refine own_e ?_); conv => whnf) | ((with_reducible refine mkmap_b ?_); conv => whnf) | (refine draw_i 22 plGL26b_3 (by decide +kernel) ?_; (conv => whnf); fail_if_success (guard_target =~ False)) | (refine draw_i 22 plGL26b_4 (by decide +kernel) ?_; (conv => whnf); fail_if_success (guard_target =~ False)) | (refine draw_i 16 plGL26b_5 (by decide +kernel) ?_; (conv => whnf); fail_if_success (guard_target =~ False)) | (refine draw_i 16 plGL26b_6 (by decide +kernel) ?_; (conv => whnf); fail_if_success (guard_target =~ False)) | ((with_reducible refine And.intro ?_ ?_) <;> (conv => whnf)) | (with_reducible exact trivial) | ((with_reducible refine branch_d (fun hq => ?_) (fun hq => ?_)) <;> (try (exfalso; omega)) <;> (conv => whnf)) | ((with_reducible refine branch_e (fun hq => ?_) (fun hq => ?_)) <;> (try (exfalso; omega)) <;> (conv => whnf)) | ((with_reducible refine branch_n (fun hq => ?_) (fun hq => ?_)) <;> (try (exfalso; omega)) <;> (conv => whnf)) | ((with_reducible refine branch_i (fun hq => ?_) (fun hq => ?_)) <;> (try (exfalso; omega)) <;> (conv => whnf))))
        exact ⟨i, j + 1, out ++ [y], ⟨hi, by omega, by rw [← ho]; simp, by simp; omega⟩, by rw [snoc]; exact (le_mk (by repeat' (first | exact trivial | rfl | apply And.intro)) (by repeat' (first | exact trivial | rfl | apply And.intro)) rfl), by omega⟩
    · obtain rfl : j = b.length := by omega
      rw [drop_at hx, List.drop_length, merge_nil] at ho
      (conv => whnf); (repeat' (first | (refine arith_i ⟨by omega, by omega⟩ ?_; conv => whnf) | (refine arith_u ⟨by omega, by omega⟩ ?_; conv => whnf) | (refine arith_8 ⟨by omega, by omega⟩ ?_; conv => whnf) | (refine need_i (by first | omega | (simp only [List.length_cons, List.length_nil]; omega) | (simp only [List.length_append, List.length_cons, List.length_nil, List.length_map, List.length_replicate, List.length_modify]; omega)) ?_; conv => whnf) | ((with_reducible refine branch_tt ?_); conv => whnf) | ((with_reducible refine branch_ff ?_); conv => whnf) | (with_reducible refine branch_not ?_) | ((refine idx_cs hx ?_); conv => whnf) | ((with_reducible refine slc_e ?_); conv => whnf) | ((with_reducible refine callS_a ?_); conv => whnf) | ((with_reducible refine bld_a ?_); conv => whnf) | ((with_reducible refine own_e ?_); conv => whnf) | ((with_reducible refine mkmap_b ?_); conv => whnf) | (refine draw_i 22 plGL26b_3 (by decide +kernel) ?_; (conv => whnf); fail_if_success (guard_target =~ False)) | (refine draw_i 22 plGL26b_4 (by decide +kernel) ?_; (conv => whnf); fail_if_success (guard_target =~ False)) | (refine draw_i 16 plGL26b_5 (by decide +kernel) ?_; (conv => whnf); fail_if_success (guard_target =~ False)) | (refine draw_i 16 plGL26b_6 (by decide +kernel) ?_; (conv => whnf); fail_if_success (guard_target =~ False)) | ((with_reducible refine And.intro ?_ ?_) <;> (conv => whnf)) | (with_reducible exact trivial) | ((with_reducible refine branch_d (fun hq => ?_) (fun hq => ?_)) <;> (try (exfalso; omega)) <;> (conv => whnf)) | ((with_reducible refine branch_e (fun hq => ?_) (fun hq => ?_)) <;> (try (exfalso; omega)) <;> (conv => whnf)) | ((with_reducible refine branch_n (fun hq => ?_) (fun hq => ?_)) <;> (try (exfalso; omega)) <;> (conv => whnf)) | ((with_reducible refine branch_i (fun hq => ?_) (fun hq => ?_)) <;> (try (exfalso; omega)) <;> (conv => whnf))))
      exact ⟨i + 1, b.length, out ++ [x], ⟨by omega, hj, by rw [List.drop_length, merge_nil, ← ho]; simp, by simp; omega⟩, by rw [snoc]; exact (le_mk (by repeat' (first | exact trivial | rfl | apply And.intro)) (by repeat' (first | exact trivial | rfl | apply And.intro)) rfl), by omega⟩
  · obtain rfl : i = a.length := by omega
    rcases Nat.lt_or_ge j b.length with hjl | hjl
    · obtain ⟨y, hy⟩ : ∃ y, b[j]? = some y := ⟨_, List.getElem?_eq_getElem hjl⟩
      rw [drop_at hy, List.drop_length, merge_nil2] at ho
      (conv => whnf); (repeat' (first | (refine arith_i ⟨by omega, by omega⟩ ?_; conv => whnf) | (refine arith_u ⟨by omega, by omega⟩ ?_; conv => whnf) | (refine arith_8 ⟨by omega, by omega⟩ ?_; conv => whnf) | (refine need_i (by first | omega | (simp only [List.length_cons, List.length_nil]; omega) | (simp only [List.length_append, List.length_cons, List.length_nil, List.length_map, List.length_replicate, List.length_modify]; omega)) ?_; conv => whnf) | ((with_reducible refine branch_tt ?_); conv => whnf) | ((with_reducible refine branch_ff ?_); conv => whnf) | (with_reducible refine branch_not ?_) | ((refine idx_cs hy ?_); conv => whnf) | ((with_reducible refine slc_e ?_); conv => whnf) | ((with_reducible refine callS_a ?_); conv => whnf) | ((with_reducible refine bld_a ?_); conv => whnf) | ((with_reducible refine own_e ?_); conv => whnf) | ((with_reducible refine mkmap_b ?_); conv => whnf) | (refine draw_i 22 plGL26b_3 (by decide +kernel) ?_; (conv => whnf); fail_if_success (guard_target =~ False)) | (refine draw_i 22 plGL26b_4 (by decide +kernel) ?_; (conv => whnf); fail_if_success (guard_target =~ False)) | (refine draw_i 16 plGL26b_5 (by decide +kernel) ?_; (conv => whnf); fail_if_success (guard_target =~ False)) | (refine draw_i 16 plGL26b_6 (by decide +kernel) ?_; (conv => whnf); fail_if_success (guard_target =~ False)) | ((with_reducible refine And.intro ?_ ?_) <;> (conv => whnf)) | (with_reducible exact trivial) | ((with_reducible refine branch_d (fun hq => ?_) (fun hq => ?_)) <;> (try (exfalso; omega)) <;> (conv => whnf)) | ((with_reducible refine branch_e (fun hq => ?_) (fun hq => ?_)) <;> (try (exfalso; omega)) <;> (conv => whnf)) | ((with_reducible refine branch_n (fun hq => ?_) (fun hq => ?_)) <;> (try (exfalso; omega)) <;> (conv => whnf)) | ((with_reducible refine branch_i (fun hq => ?_) (fun hq => ?_)) <;> (try (exfalso; omega)) <;> (conv => whnf))))
      exact ⟨a.length, j + 1, out ++ [y], ⟨hi, by omega, by rw [List.drop_length, merge_nil2, ← ho]; simp, by simp; omega⟩, by rw [snoc]; exact (le_mk (by repeat' (first | exact trivial | rfl | apply And.intro)) (by repeat' (first | exact trivial | rfl | apply And.intro)) rfl), by omega⟩
    · obtain rfl : j = b.length := by omega
      rw [List.drop_length, List.drop_length, merge_nil, List.append_nil] at ho
      (conv => whnf); (repeat' (first | (refine arith_i ⟨by omega, by omega⟩ ?_; conv => whnf) | (refine arith_u ⟨by omega, by omega⟩ ?_; conv => whnf) | (refine arith_8 ⟨by omega, by omega⟩ ?_; conv => whnf) | (refine need_i (by first | omega | (simp only [List.length_cons, List.length_nil]; omega) | (simp only [List.length_append, List.length_cons, List.length_nil, List.length_map, List.length_replicate, List.length_modify]; omega)) ?_; conv => whnf) | ((with_reducible refine branch_tt ?_); conv => whnf) | ((with_reducible refine branch_ff ?_); conv => whnf) | (with_reducible refine branch_not ?_) | ((with_reducible refine slc_e ?_); conv => whnf) | ((with_reducible refine callS_a ?_); conv => whnf) | ((with_reducible refine bld_a ?_); conv => whnf) | ((with_reducible refine own_e ?_); conv => whnf) | ((with_reducible refine mkmap_b ?_); conv => whnf) | (refine draw_i 22 plGL26b_3 (by decide +kernel) ?_; (conv => whnf); fail_if_success (guard_target =~ False)) | (refine draw_i 22 plGL26b_4 (by decide +kernel) ?_; (conv => whnf); fail_if_success (guard_target =~ False)) | (refine draw_i 16 plGL26b_5 (by decide +kernel) ?_; (conv => whnf); fail_if_success (guard_target =~ False)) | (refine draw_i 16 plGL26b_6 (by decide +kernel) ?_; (conv => whnf); fail_if_success (guard_target =~ False)) | ((with_reducible refine And.intro ?_ ?_) <;> (conv => whnf)) | (with_reducible exact trivial) | ((with_reducible refine branch_d (fun hq => ?_) (fun hq => ?_)) <;> (try (exfalso; omega)) <;> (conv => whnf)) | ((with_reducible refine branch_e (fun hq => ?_) (fun hq => ?_)) <;> (try (exfalso; omega)) <;> (conv => whnf)) | ((with_reducible refine branch_n (fun hq => ?_) (fun hq => ?_)) <;> (try (exfalso; omega)) <;> (conv => whnf)) | ((with_reducible refine branch_i (fun hq => ?_) (fun hq => ?_)) <;> (try (exfalso; omega)) <;> (conv => whnf))))
      rw [← ho]
      exact ret_o rfl
end Go.Proofs.Ytpmoflggmdfmnaa
end

/- Layer 26: valid marks, definitive marks: of the program. -/
section
namespace Go.Proofs.Ytpmoflggmdfmnaa
set_option linter.unusedVariables false
set_option linter.unusedSimpArgs false
set_option linter.unnecessarySimpa false
set_option linter.unusedSectionVars false
set_option maxRecDepth 10000
open Go.RowKit
def plGL26c_0 : Plan := (.take 0 (.take 1 (.take 2 (.take 3 (.take 4 (.take 5 (.take 6 (.take 7 (.take 8 (.take 9 (.take 10 (.take 11 (.take 12 (.take 13 .done))))))))))))))
def plGL26c_1 : Plan := (.take 0 (.take 1 (.take 2 (.alt 3 (.take 4 (.take 5 (.take 6 (.take 7 (.take 8 (.take 10 (.alt 9 (.alt 11 (.take 12 (.take 13 .done)) .stop) (.alt 11 (.alt 9 (.take 12 (.take 13 .done)) .stop) .stop)))))))) .stop))))
structure Sed where
  script : Int
  marks : List Int
def encSd (x : Sed) : List AV := [.int .i64 x.script, ints x.marks]
def sedsV (l : List Sed) : AV := .lst 2 (l.map encSd)
def defF (l : List Sed) (n : Int) : Option Sed := l.find? (·.script == n)
def defV (l : List Sed) (n : Int) : AV := match defF l n with | some x => .tup [ints x.marks, .bool true] | none => .tup [ints [], .bool false]
theorem definitive_ok (l : List Sed) (n : Int) (hl : l.length ≤ 1000) (hm : ∀ (k : Nat) (x : Sed), l[k]? = some x → x.marks.length ≤ 1000000) : Good Try.prog TT false 45 [sedsV l, .int .i64 n] (· = defV l n) := by
  have LL : (l.map encSd).length = l.length := List.length_map ..
  refine good_of mixed tabOk Try.func45 rfl rfl Try.ntmps45 Try.results45 rfl rfl ?_
  (conv => whnf); (repeat' (first | (refine arith_i ⟨by omega, by omega⟩ ?_; conv => whnf) | (refine arith_u ⟨by omega, by omega⟩ ?_; conv => whnf) | (refine arith_8 ⟨by omega, by omega⟩ ?_; conv => whnf) | (refine need_i (by first | omega | (simp only [List.length_cons, List.length_nil]; omega) | (simp only [List.length_append, List.length_cons, List.length_nil, List.length_map, List.length_replicate, List.length_modify]; omega)) ?_; conv => whnf) | ((with_reducible refine branch_tt ?_); conv => whnf) | ((with_reducible refine branch_ff ?_); conv => whnf) | (with_reducible refine branch_not ?_) | ((with_reducible refine slc_e ?_); conv => whnf) | ((with_reducible refine callS_a ?_); conv => whnf) | ((with_reducible refine bld_a ?_); conv => whnf) | ((with_reducible refine own_e ?_); conv => whnf) | ((with_reducible refine mkmap_b ?_); conv => whnf) | ((with_reducible refine branch_d (fun hq => ?_) (fun hq => ?_)) <;> (try (exfalso; omega)) <;> (conv => whnf)) | ((with_reducible refine branch_e (fun hq => ?_) (fun hq => ?_)) <;> (try (exfalso; omega)) <;> (conv => whnf)) | ((with_reducible refine branch_n (fun hq => ?_) (fun hq => ?_)) <;> (try (exfalso; omega)) <;> (conv => whnf)) | ((with_reducible refine branch_i (fun hq => ?_) (fun hq => ?_)) <;> (try (exfalso; omega)) <;> (conv => whnf))))
  refine loop_i (fun k : Nat => k ≤ l.length ∧ ∀ (i : Nat) (x : Sed), i < k → l[i]? = some x → x.script ≠ n) (fun k => mkSt [(1, .int .i64 n), (8, sedsV l), (9, .int .i64 l.length), (10, .int .i64 k)] [] false) (fun k => l.length - k) 0 ⟨Nat.zero_le _, fun i x h => absurd h (by omega)⟩ (le_mk ⟨rfl, rfl, int_eq (by rw [LL]), rfl, trivial⟩ trivial rfl) ?_
  rintro k ⟨hk, hall⟩
  rcases Nat.lt_or_ge k l.length with hkl | hkl
  · obtain ⟨x, hx⟩ : ∃ x, l[k]? = some x := ⟨_, List.getElem?_eq_getElem hkl⟩
    have hxm := hm k x hx
    (conv => whnf); (repeat' (first | (refine arith_i ⟨by omega, by omega⟩ ?_; conv => whnf) | (refine arith_u ⟨by omega, by omega⟩ ?_; conv => whnf) | (refine arith_8 ⟨by omega, by omega⟩ ?_; conv => whnf) | (refine need_i (by first | omega | (simp only [List.length_cons, List.length_nil]; omega) | (simp only [List.length_append, List.length_cons, List.length_nil, List.length_map, List.length_replicate, List.length_modify]; omega)) ?_; conv => whnf) | ((with_reducible refine branch_tt ?_); conv => whnf) | ((with_reducible refine branch_ff ?_); conv => whnf) | (with_reducible refine branch_not ?_) | ((refine idx_cs hx ?_); conv => whnf) | ((refine call_e (clone_ok x.marks hxm) ?_); conv => whnf) | ((with_reducible refine slc_e ?_); conv => whnf) | ((with_reducible refine callS_a ?_); conv => whnf) | ((with_reducible refine bld_a ?_); conv => whnf) | ((with_reducible refine own_e ?_); conv => whnf) | ((with_reducible refine mkmap_b ?_); conv => whnf) | ((with_reducible refine branch_d (fun hq => ?_) (fun hq => ?_)) <;> (try (exfalso; omega)) <;> (conv => whnf)) | ((with_reducible refine branch_e (fun hq => ?_) (fun hq => ?_)) <;> (try (exfalso; omega)) <;> (conv => whnf)) | ((with_reducible refine branch_n (fun hq => ?_) (fun hq => ?_)) <;> (try (exfalso; omega)) <;> (conv => whnf)) | ((with_reducible refine branch_i (fun hq => ?_) (fun hq => ?_)) <;> (try (exfalso; omega)) <;> (conv => whnf))))
    · have e : defF l n = some x := by
        unfold defF
        rw [List.find?_eq_some_iff_getElem]
        obtain ⟨h1, h2⟩ := List.getElem?_eq_some_iff.1 hx
        exact ⟨by simp only [beq_iff_eq]; assumption, k, h1, h2, fun j hj => by simpa using hall j _ hj (List.getElem?_eq_getElem (by omega))⟩
      exact ret_t (rs := [ints x.marks, .bool true]) ⟨.inl rc_o, (rc_p rfl).g, trivial⟩ (by unfold defV; rw [e])
    · refine ⟨k + 1, ⟨by omega, fun i y hi hy => ?_⟩, (le_mk (by repeat' (first | exact trivial | rfl | apply And.intro)) (by repeat' (first | exact trivial | rfl | apply And.intro)) rfl), by omega⟩
      rcases Nat.lt_or_ge i k with h' | h'
      · exact hall i y h' hy
      · obtain rfl : i = k := by omega
        rw [hx] at hy; injection hy with hy; rw [← hy]; assumption
  · (conv => whnf); (repeat' (first | (refine arith_i ⟨by omega, by omega⟩ ?_; conv => whnf) | (refine arith_u ⟨by omega, by omega⟩ ?_; conv => whnf) | (refine arith_8 ⟨by omega, by omega⟩ ?_; conv => whnf) | (refine need_i (by first | omega | (simp only [List.length_cons, List.length_nil]; omega) | (simp only [List.length_append, List.length_cons, List.length_nil, List.length_map, List.length_replicate, List.length_modify]; omega)) ?_; conv => whnf) | ((with_reducible refine branch_tt ?_); conv => whnf) | ((with_reducible refine branch_ff ?_); conv => whnf) | (with_reducible refine branch_not ?_) | ((with_reducible refine slc_e ?_); conv => whnf) | ((with_reducible refine callS_a ?_); conv => whnf) | ((with_reducible refine bld_a ?_); conv => whnf) | ((with_reducible refine own_e ?_); conv => whnf) | ((with_reducible refine mkmap_b ?_); conv => whnf) | ((with_reducible refine branch_d (fun hq => ?_) (fun hq => ?_)) <;> (try (exfalso; omega)) <;> (conv => whnf)) | ((with_reducible refine branch_e (fun hq => ?_) (fun hq => ?_)) <;> (try (exfalso; omega)) <;> (conv => whnf)) | ((with_reducible refine branch_n (fun hq => ?_) (fun hq => ?_)) <;> (try (exfalso; omega)) <;> (conv => whnf)) | ((with_reducible refine branch_i (fun hq => ?_) (fun hq => ?_)) <;> (try (exfalso; omega)) <;> (conv => whnf))))
    have e : defF l n = none := by
      unfold defF
      rw [List.find?_eq_none]
      intro x hx
      obtain ⟨i, hi⟩ := List.getElem?_of_mem hx
      have := hall i x (by have := (List.getElem?_eq_some_iff.1 hi).1; omega) hi
      simpa using this
    exact ret_t (rs := [ints [], .bool false]) ⟨.inl rc_n, (rc_p rfl).g, trivial⟩ (by unfold defV; rw [e])
def vmB (ps : List Prt) (ms : List Int) : Nat → Bool
  | 0 => true
  | k + 1 => vmB ps ms k && (match ps[k]? with | some p => decide (0 ≤ nth ms k) && decide (nth ms k ≤ p.max) | none => false)
theorem vmB_false {ps : List Prt} {ms : List Int} {i j : Nat} (hij : i ≤ j) (h : vmB ps ms i = false) : vmB ps ms j = false := by
  induction hij with
  | refl => exact h
  | step _ ih => rw [vmB, ih]; rfl
theorem validMarks_ok (p : Pap) (ms : List Int) (hp : p.parts.length ≤ 1000) (hm : ms.length ≤ 1000000) : Good Try.prog TT false 80 [.agg (encPap p), ints ms] (· = .bool (decide (ms.length = p.parts.length) && vmB p.parts ms p.parts.length)) := by
  have LP : (p.parts.map encPrt).length = p.parts.length := List.length_map ..
  have LM : (ms.map encI).length = ms.length := List.length_map ..
  refine good_of mixed tabOk Try.func80 rfl rfl Try.ntmps80 Try.results80 rfl rfl ?_
  (conv => whnf); (repeat' (first | (refine arith_i ⟨by omega, by omega⟩ ?_; conv => whnf) | (refine arith_u ⟨by omega, by omega⟩ ?_; conv => whnf) | (refine arith_8 ⟨by omega, by omega⟩ ?_; conv => whnf) | (refine need_i (by first | omega | (simp only [List.length_cons, List.length_nil]; omega) | (simp only [List.length_append, List.length_cons, List.length_nil, List.length_map, List.length_replicate, List.length_modify]; omega)) ?_; conv => whnf) | ((with_reducible refine branch_tt ?_); conv => whnf) | ((with_reducible refine branch_ff ?_); conv => whnf) | (with_reducible refine branch_not ?_) | ((with_reducible refine slc_e ?_); conv => whnf) | ((with_reducible refine callS_a ?_); conv => whnf) | ((with_reducible refine bld_a ?_); conv => whnf) | ((with_reducible refine own_e ?_); conv => whnf) | ((with_reducible refine mkmap_b ?_); conv => whnf) | (refine draw_i 14 plGL26c_0 (by decide +kernel) ?_; (conv => whnf); fail_if_success (guard_target =~ False)) | (refine draw_i 14 plGL26c_1 (by decide +kernel) ?_; (conv => whnf); fail_if_success (guard_target =~ False)) | ((with_reducible refine And.intro ?_ ?_) <;> (conv => whnf)) | (with_reducible exact trivial) | ((with_reducible refine branch_d (fun hq => ?_) (fun hq => ?_)) <;> (try (exfalso; omega)) <;> (conv => whnf)) | ((with_reducible refine branch_e (fun hq => ?_) (fun hq => ?_)) <;> (try (exfalso; omega)) <;> (conv => whnf)) | ((with_reducible refine branch_n (fun hq => ?_) (fun hq => ?_)) <;> (try (exfalso; omega)) <;> (conv => whnf)) | ((with_reducible refine branch_i (fun hq => ?_) (fun hq => ?_)) <;> (try (exfalso; omega)) <;> (conv => whnf))))
  · exact ret_p rfl (bool_eq (by rw [decide_eq_false (by omega)]; rfl))
  have e0 : ms.length = p.parts.length := by omega
  rw [decide_eq_true e0, Bool.true_and]
  refine loop_i (fun k : Nat => k ≤ p.parts.length ∧ vmB p.parts ms k = true) (fun k => mkSt [(1, ints ms), (14, .lst 6 (p.parts.map encPrt)), (15, .int .i64 p.parts.length), (16, .int .i64 k)] [] false) (fun k => p.parts.length - k) 0 ⟨Nat.zero_le _, rfl⟩ (le_mk ⟨rfl, rfl, int_eq (by rw [LP]), rfl, trivial⟩ trivial rfl) ?_
  rintro k ⟨hk, hv⟩
  rcases Nat.lt_or_ge k p.parts.length with hkl | hkl
  · obtain ⟨x, hx⟩ : ∃ x, p.parts[k]? = some x := ⟨_, List.getElem?_eq_getElem hkl⟩
    obtain ⟨y, hy⟩ : ∃ y, ms[k]? = some y := ⟨_, List.getElem?_eq_getElem (by omega)⟩
    have hn := nth_eq hy
    have hnx : vmB p.parts ms (k + 1) = (decide (0 ≤ y) && decide (y ≤ x.max)) := by rw [vmB, hv, hx, hn]; rfl
    have hbad : (y < 0 ∨ x.max < y) → vmB p.parts ms p.parts.length = false := fun h => vmB_false (i := k + 1) (by omega) (by
      rw [hnx, Bool.eq_false_iff, Ne]
      simp only [Bool.and_eq_true, decide_eq_true_eq]
      omega)
    (conv => whnf); (repeat' (first | (refine arith_i ⟨by omega, by omega⟩ ?_; conv => whnf) | (refine arith_u ⟨by omega, by omega⟩ ?_; conv => whnf) | (refine arith_8 ⟨by omega, by omega⟩ ?_; conv => whnf) | (refine need_i (by first | omega | (simp only [List.length_cons, List.length_nil]; omega) | (simp only [List.length_append, List.length_cons, List.length_nil, List.length_map, List.length_replicate, List.length_modify]; omega)) ?_; conv => whnf) | ((with_reducible refine branch_tt ?_); conv => whnf) | ((with_reducible refine branch_ff ?_); conv => whnf) | (with_reducible refine branch_not ?_) | ((refine idx_cs hx ?_); conv => whnf) | ((refine idx_cs hy ?_); conv => whnf) | ((with_reducible refine slc_e ?_); conv => whnf) | ((with_reducible refine callS_a ?_); conv => whnf) | ((with_reducible refine bld_a ?_); conv => whnf) | ((with_reducible refine own_e ?_); conv => whnf) | ((with_reducible refine mkmap_b ?_); conv => whnf) | (refine draw_i 14 plGL26c_0 (by decide +kernel) ?_; (conv => whnf); fail_if_success (guard_target =~ False)) | (refine draw_i 14 plGL26c_1 (by decide +kernel) ?_; (conv => whnf); fail_if_success (guard_target =~ False)) | ((with_reducible refine And.intro ?_ ?_) <;> (conv => whnf)) | (with_reducible exact trivial) | ((with_reducible refine branch_d (fun hq => ?_) (fun hq => ?_)) <;> (try (exfalso; omega)) <;> (conv => whnf)) | ((with_reducible refine branch_e (fun hq => ?_) (fun hq => ?_)) <;> (try (exfalso; omega)) <;> (conv => whnf)) | ((with_reducible refine branch_n (fun hq => ?_) (fun hq => ?_)) <;> (try (exfalso; omega)) <;> (conv => whnf)) | ((with_reducible refine branch_i (fun hq => ?_) (fun hq => ?_)) <;> (try (exfalso; omega)) <;> (conv => whnf))))
    all_goals first | exact ret_p rfl (bool_eq (hbad (by omega)).symm) | exact ⟨k + 1, ⟨by omega, by rw [hnx, Bool.and_eq_true, decide_eq_true_eq, decide_eq_true_eq]; omega⟩, (le_mk (by repeat' (first | exact trivial | rfl | apply And.intro)) (by repeat' (first | exact trivial | rfl | apply And.intro)) rfl), by omega⟩
  · (conv => whnf); (repeat' (first | (refine arith_i ⟨by omega, by omega⟩ ?_; conv => whnf) | (refine arith_u ⟨by omega, by omega⟩ ?_; conv => whnf) | (refine arith_8 ⟨by omega, by omega⟩ ?_; conv => whnf) | (refine need_i (by first | omega | (simp only [List.length_cons, List.length_nil]; omega) | (simp only [List.length_append, List.length_cons, List.length_nil, List.length_map, List.length_replicate, List.length_modify]; omega)) ?_; conv => whnf) | ((with_reducible refine branch_tt ?_); conv => whnf) | ((with_reducible refine branch_ff ?_); conv => whnf) | (with_reducible refine branch_not ?_) | ((with_reducible refine slc_e ?_); conv => whnf) | ((with_reducible refine callS_a ?_); conv => whnf) | ((with_reducible refine bld_a ?_); conv => whnf) | ((with_reducible refine own_e ?_); conv => whnf) | ((with_reducible refine mkmap_b ?_); conv => whnf) | (refine draw_i 14 plGL26c_0 (by decide +kernel) ?_; (conv => whnf); fail_if_success (guard_target =~ False)) | (refine draw_i 14 plGL26c_1 (by decide +kernel) ?_; (conv => whnf); fail_if_success (guard_target =~ False)) | ((with_reducible refine And.intro ?_ ?_) <;> (conv => whnf)) | (with_reducible exact trivial) | ((with_reducible refine branch_d (fun hq => ?_) (fun hq => ?_)) <;> (try (exfalso; omega)) <;> (conv => whnf)) | ((with_reducible refine branch_e (fun hq => ?_) (fun hq => ?_)) <;> (try (exfalso; omega)) <;> (conv => whnf)) | ((with_reducible refine branch_n (fun hq => ?_) (fun hq => ?_)) <;> (try (exfalso; omega)) <;> (conv => whnf)) | ((with_reducible refine branch_i (fun hq => ?_) (fun hq => ?_)) <;> (try (exfalso; omega)) <;> (conv => whnf))))
    obtain rfl : k = p.parts.length := by omega
    rw [hv]
    exact ret_p rfl rfl
end Go.Proofs.Ytpmoflggmdfmnaa
end

/- Layer 26: the dice's setups: papers of scripts, seeds, the monitor's rule. -/
section
namespace Go.Proofs.Ytpmoflggmdfmnaa
set_option linter.unusedVariables false
set_option linter.unusedSimpArgs false
set_option linter.unnecessarySimpa false
set_option linter.unusedSectionVars false
set_option maxRecDepth 10000
open Go.RowKit
def plGL26l_0 : Plan := (.take 0 (.take 1 (.take 2 (.take 3 (.take 4 (.take 5 (.take 6 (.take 7 (.take 8 (.take 9 (.take 10 (.take 11 (.take 12 (.take 13 (.take 14 (.take 15 (.take 16 (.take 17 .done))))))))))))))))))
def plGL26l_1 : Plan := (.take 0 (.take 1 (.take 2 (.take 3 (.take 5 (.take 6 (.alt 4 (.take 7 (.take 8 (.take 9 (.take 10 (.take 11 (.take 12 (.take 14 (.alt 13 (.alt 15 (.take 16 (.take 17 .done)) .stop) (.alt 15 (.alt 13 (.take 16 (.take 17 .done)) .stop) .stop))))))))) .stop)))))))
def plGL26l_2 : Plan := (.take 0 (.take 1 (.take 2 (.take 3 (.take 5 (.alt 4 (.alt 6 (.take 7 (.take 8 (.take 9 (.take 10 (.take 11 (.take 12 (.take 14 (.alt 13 (.alt 15 (.take 16 (.take 17 .done)) .stop) (.alt 15 (.alt 13 (.take 16 (.take 17 .done)) .stop) .stop))))))))) .stop) (.alt 6 (.alt 4 (.take 7 (.take 8 (.take 9 (.take 10 (.take 11 (.take 12 (.take 14 (.alt 13 (.alt 15 (.take 16 (.take 17 .done)) .stop) (.alt 15 (.alt 13 (.take 16 (.take 17 .done)) .stop) .stop))))))))) .stop) .stop)))))))
def plGL26l_3 : Plan := (.take 0 (.take 1 (.take 2 (.take 3 (.take 4 (.take 5 (.take 6 (.take 7 (.take 8 (.take 9 (.alt 10 (.alt 11 (.alt 12 (.take 13 (.alt 14 .done .stop)) .stop) .stop) .stop)))))))))))
def plGL26l_4 : Plan := (.take 0 (.take 1 (.take 2 (.take 3 (.take 4 (.take 5 (.take 6 (.take 7 (.alt 8 (.take 9 (.alt 10 (.alt 11 (.alt 12 (.take 13 (.alt 14 .done .stop)) .stop) .stop) .stop)) .stop)))))))))
def plGL26l_5 : Plan := (.take 0 (.take 2 (.take 3 (.take 5 (.alt 1 (.alt 4 (.take 6 (.take 7 (.alt 8 (.take 9 (.alt 10 (.alt 11 (.alt 12 (.take 13 (.alt 14 .done .stop)) .stop) .stop) .stop)) .stop))) .stop) (.alt 4 (.take 6 (.take 7 (.alt 1 (.alt 8 (.take 9 (.alt 10 (.alt 11 (.alt 12 (.take 13 (.alt 14 .done .stop)) .stop) .stop) .stop)) .stop) (.alt 8 (.take 9 (.alt 1 (.alt 10 (.alt 11 (.alt 12 (.take 13 (.alt 14 .done .stop)) .stop) .stop) .stop) (.alt 10 (.alt 1 (.alt 11 (.alt 12 (.take 13 (.alt 14 .done .stop)) .stop) .stop) (.alt 11 (.alt 1 (.alt 12 (.take 13 (.alt 14 .done .stop)) .stop) .stop) .stop)) .stop))) .stop)))) .stop))))))
def plGL26l_7 : Plan := (.take 0 (.take 1 (.take 2 (.take 3 (.take 4 (.take 5 (.take 6 (.take 7 (.take 8 (.alt 9 (.alt 10 (.alt 11 (.take 12 (.alt 13 .done .stop)) .stop) .stop) .stop))))))))))
def plGL26l_8 : Plan := (.take 0 (.take 1 (.take 2 (.take 3 (.take 4 (.take 5 (.take 6 (.take 7 (.alt 8 (.alt 9 (.alt 10 (.alt 11 (.take 12 (.alt 13 .done .stop)) .stop) .stop) .stop) .stop)))))))))
def plGL26l_9 : Plan := (.take 0 (.take 2 (.take 3 (.take 4 (.take 6 (.alt 1 (.alt 5 (.take 7 (.alt 8 (.alt 9 (.alt 10 (.alt 11 (.take 12 (.alt 13 .done .stop)) .stop) .stop) .stop) .stop)) .stop) (.alt 5 (.take 7 (.alt 1 (.alt 8 (.alt 9 (.alt 10 (.alt 11 (.take 12 (.alt 13 .done .stop)) .stop) .stop) .stop) .stop) (.alt 8 (.alt 1 (.alt 9 (.alt 10 (.alt 11 (.take 12 (.alt 13 .done .stop)) .stop) .stop) .stop) (.alt 9 (.alt 1 (.alt 10 (.alt 11 (.take 12 (.alt 13 .done .stop)) .stop) .stop) (.alt 10 (.alt 1 (.alt 11 (.take 12 (.alt 13 .done .stop)) .stop) .stop) .stop)) .stop)) .stop))) .stop)))))))
def papM (x : Scr) (p : Pap) : Bool := p.code == x.paper && p.variant == x.variant
def papF (ps : List Pap) (x : Scr) : Option Pap := ps.find? (papM x)
def papZ : Pap := ⟨0, 0, []⟩
theorem paperOf_ok (ps : List Pap) (x : Scr) (hl : ps.length ≤ 1000) : Good Try.prog TT false 86 [.lst 3 (ps.map encPap), .agg (encR x)] (· = .agg (encPap ((papF ps x).getD papZ))) := by
  have L : (ps.map encPap).length = ps.length := List.length_map ..
  refine good_of mixed tabOk Try.func86 rfl rfl Try.ntmps86 Try.results86 rfl rfl ?_
  (conv => whnf); (repeat' (first | (refine arith_i ⟨by omega, by omega⟩ ?_; conv => whnf) | (refine arith_u ⟨by omega, by omega⟩ ?_; conv => whnf) | (refine arith_8 ⟨by omega, by omega⟩ ?_; conv => whnf) | (refine need_i (by first | omega | (simp only [List.length_cons, List.length_nil]; omega) | (simp only [List.length_append, List.length_cons, List.length_nil, List.length_map, List.length_replicate, List.length_modify]; omega)) ?_; conv => whnf) | ((with_reducible refine branch_tt ?_); conv => whnf) | ((with_reducible refine branch_ff ?_); conv => whnf) | (with_reducible refine branch_not ?_) | ((with_reducible refine slc_e ?_); conv => whnf) | ((with_reducible refine callS_a ?_); conv => whnf) | ((with_reducible refine bld_a ?_); conv => whnf) | ((with_reducible refine own_e ?_); conv => whnf) | ((with_reducible refine mkmap_b ?_); conv => whnf) | (refine draw_i 18 plGL26l_0 (by decide +kernel) ?_; (conv => whnf); fail_if_success (guard_target =~ False)) | (refine draw_i 18 plGL26l_1 (by decide +kernel) ?_; (conv => whnf); fail_if_success (guard_target =~ False)) | (refine draw_i 18 plGL26l_2 (by decide +kernel) ?_; (conv => whnf); fail_if_success (guard_target =~ False)) | ((with_reducible refine And.intro ?_ ?_) <;> (conv => whnf)) | (with_reducible exact trivial) | ((with_reducible refine branch_d (fun hq => ?_) (fun hq => ?_)) <;> (try (exfalso; omega)) <;> (conv => whnf)) | ((with_reducible refine branch_e (fun hq => ?_) (fun hq => ?_)) <;> (try (exfalso; omega)) <;> (conv => whnf)) | ((with_reducible refine branch_n (fun hq => ?_) (fun hq => ?_)) <;> (try (exfalso; omega)) <;> (conv => whnf)) | ((with_reducible refine branch_i (fun hq => ?_) (fun hq => ?_)) <;> (try (exfalso; omega)) <;> (conv => whnf))))
  refine loop_i (fun i : Nat => i ≤ ps.length ∧ ∀ j p, j < i → ps[j]? = some p → papM x p = false) (fun i => mkSt [(0, .lst 3 (ps.map encPap)), (3, .ptr 3 0), (4, .ptr 4 0), (5, .int .i64 i)] [(3, encR x), (4, [.int .i64 0, .int .i64 0, .nil])] false) (fun i => ps.length - i) 0 ⟨Nat.zero_le _, nofun⟩ (le_mk ⟨rfl, rfl, rfl, rfl, trivial⟩ ⟨rfl, rfl, trivial⟩ rfl) ?_
  rintro i ⟨hi, hno⟩
  rcases Nat.lt_or_ge i ps.length with hil | hil
  · obtain ⟨p, hp⟩ : ∃ p, ps[i]? = some p := ⟨_, List.getElem?_eq_getElem hil⟩
    have hstep : papM x p = false → ∀ j p', j < i + 1 → ps[j]? = some p' → papM x p' = false := fun h j p' hj hp' => by
      rcases Nat.lt_or_ge j i with g | g
      · exact hno j p' g hp'
      · obtain rfl : j = i := by omega
        rw [hp] at hp'; injection hp' with hp'; rw [← hp']; exact h
    (conv => whnf); (repeat' (first | (refine arith_i ⟨by omega, by omega⟩ ?_; conv => whnf) | (refine arith_u ⟨by omega, by omega⟩ ?_; conv => whnf) | (refine arith_8 ⟨by omega, by omega⟩ ?_; conv => whnf) | (refine need_i (by first | omega | (simp only [List.length_cons, List.length_nil]; omega) | (simp only [List.length_append, List.length_cons, List.length_nil, List.length_map, List.length_replicate, List.length_modify]; omega)) ?_; conv => whnf) | ((with_reducible refine branch_tt ?_); conv => whnf) | ((with_reducible refine branch_ff ?_); conv => whnf) | (with_reducible refine branch_not ?_) | ((refine idx_cs hp ?_); conv => whnf) | ((with_reducible refine slc_e ?_); conv => whnf) | ((with_reducible refine callS_a ?_); conv => whnf) | ((with_reducible refine bld_a ?_); conv => whnf) | ((with_reducible refine own_e ?_); conv => whnf) | ((with_reducible refine mkmap_b ?_); conv => whnf) | (refine draw_i 18 plGL26l_0 (by decide +kernel) ?_; (conv => whnf); fail_if_success (guard_target =~ False)) | (refine draw_i 18 plGL26l_1 (by decide +kernel) ?_; (conv => whnf); fail_if_success (guard_target =~ False)) | (refine draw_i 18 plGL26l_2 (by decide +kernel) ?_; (conv => whnf); fail_if_success (guard_target =~ False)) | ((with_reducible refine And.intro ?_ ?_) <;> (conv => whnf)) | (with_reducible exact trivial) | ((with_reducible refine branch_d (fun hq => ?_) (fun hq => ?_)) <;> (try (exfalso; omega)) <;> (conv => whnf)) | ((with_reducible refine branch_e (fun hq => ?_) (fun hq => ?_)) <;> (try (exfalso; omega)) <;> (conv => whnf)) | ((with_reducible refine branch_n (fun hq => ?_) (fun hq => ?_)) <;> (try (exfalso; omega)) <;> (conv => whnf)) | ((with_reducible refine branch_i (fun hq => ?_) (fun hq => ?_)) <;> (try (exfalso; omega)) <;> (conv => whnf))))
    all_goals first
      | (have hm : papM x p = true := by unfold papM; rw [Bool.and_eq_true, beq_iff_eq, beq_iff_eq]; constructor <;> omega
         have hf : papF ps x = some p := by
           unfold papF
           rw [List.find?_eq_some_iff_getElem]
           refine ⟨hm, i, hil, (List.getElem?_eq_some_iff.1 hp).2, fun j hj => ?_⟩
           rw [hno j _ hj (List.getElem?_eq_getElem (by omega))]; rfl
         rw [hf]
         exact ret_a (cs' := encPap p) ⟨rc_p rfl, rc_p rfl, rc_p rfl, trivial⟩ rfl)
      | (have hm : papM x p = false := by unfold papM; rw [Bool.and_eq_false_iff, beq_eq_false_iff_ne, beq_eq_false_iff_ne]; omega
         exact ⟨i + 1, ⟨by omega, hstep hm⟩, le_mk ⟨rfl, rfl, rfl, rfl, trivial⟩ ⟨rfl, rfl, trivial⟩ rfl, by omega⟩)
  · (conv => whnf); (repeat' (first | (refine arith_i ⟨by omega, by omega⟩ ?_; conv => whnf) | (refine arith_u ⟨by omega, by omega⟩ ?_; conv => whnf) | (refine arith_8 ⟨by omega, by omega⟩ ?_; conv => whnf) | (refine need_i (by first | omega | (simp only [List.length_cons, List.length_nil]; omega) | (simp only [List.length_append, List.length_cons, List.length_nil, List.length_map, List.length_replicate, List.length_modify]; omega)) ?_; conv => whnf) | ((with_reducible refine branch_tt ?_); conv => whnf) | ((with_reducible refine branch_ff ?_); conv => whnf) | (with_reducible refine branch_not ?_) | ((with_reducible refine slc_e ?_); conv => whnf) | ((with_reducible refine callS_a ?_); conv => whnf) | ((with_reducible refine bld_a ?_); conv => whnf) | ((with_reducible refine own_e ?_); conv => whnf) | ((with_reducible refine mkmap_b ?_); conv => whnf) | (refine draw_i 18 plGL26l_0 (by decide +kernel) ?_; (conv => whnf); fail_if_success (guard_target =~ False)) | (refine draw_i 18 plGL26l_1 (by decide +kernel) ?_; (conv => whnf); fail_if_success (guard_target =~ False)) | (refine draw_i 18 plGL26l_2 (by decide +kernel) ?_; (conv => whnf); fail_if_success (guard_target =~ False)) | ((with_reducible refine And.intro ?_ ?_) <;> (conv => whnf)) | (with_reducible exact trivial) | ((with_reducible refine branch_d (fun hq => ?_) (fun hq => ?_)) <;> (try (exfalso; omega)) <;> (conv => whnf)) | ((with_reducible refine branch_e (fun hq => ?_) (fun hq => ?_)) <;> (try (exfalso; omega)) <;> (conv => whnf)) | ((with_reducible refine branch_n (fun hq => ?_) (fun hq => ?_)) <;> (try (exfalso; omega)) <;> (conv => whnf)) | ((with_reducible refine branch_i (fun hq => ?_) (fun hq => ?_)) <;> (try (exfalso; omega)) <;> (conv => whnf))))
    have hf : papF ps x = none := by
      unfold papF
      rw [List.find?_eq_none]
      intro p hp
      obtain ⟨j, hj⟩ := List.getElem?_of_mem hp
      have := (List.getElem?_eq_some_iff.1 hj).1
      rw [hno j p (by omega) hj]; simp
    rw [hf]
    exact ret_a (cs' := encPap papZ) ⟨rc_p rfl, rc_p rfl, rc_n, trivial⟩ rfl
theorem monitor_ok : Good Try.prog TT true 70 [.tape] (fun r => ∃ a b c e : Int, r = .agg [.int .i64 a, .int .i64 b, .int .i64 c, .int .i64 e]) := by
  refine good_of mixed tabOk Try.func70 rfl rfl Try.ntmps70 Try.results70 rfl rfl ?_
  (conv => whnf); (repeat' (first | (refine arith_i ⟨by omega, by omega⟩ ?_; conv => whnf) | (refine arith_u ⟨by omega, by omega⟩ ?_; conv => whnf) | (refine arith_8 ⟨by omega, by omega⟩ ?_; conv => whnf) | (refine need_i (by first | omega | (simp only [List.length_cons, List.length_nil]; omega) | (simp only [List.length_append, List.length_cons, List.length_nil, List.length_map, List.length_replicate, List.length_modify]; omega)) ?_; conv => whnf) | ((with_reducible refine branch_tt ?_); conv => whnf) | ((with_reducible refine branch_ff ?_); conv => whnf) | (with_reducible refine branch_not ?_) | (((refine call_i (next_ok _ (by omega)) fun r hr => ?_; obtain ⟨x, rfl, hx0, hx⟩ := hr)); conv => whnf) | ((with_reducible refine slc_e ?_); conv => whnf) | ((with_reducible refine callS_a ?_); conv => whnf) | ((with_reducible refine bld_a ?_); conv => whnf) | ((with_reducible refine own_e ?_); conv => whnf) | ((with_reducible refine mkmap_b ?_); conv => whnf) | ((with_reducible refine branch_d (fun hq => ?_) (fun hq => ?_)) <;> (try (exfalso; omega)) <;> (conv => whnf)) | ((with_reducible refine branch_e (fun hq => ?_) (fun hq => ?_)) <;> (try (exfalso; omega)) <;> (conv => whnf)) | ((with_reducible refine branch_n (fun hq => ?_) (fun hq => ?_)) <;> (try (exfalso; omega)) <;> (conv => whnf)) | ((with_reducible refine branch_i (fun hq => ?_) (fun hq => ?_)) <;> (try (exfalso; omega)) <;> (conv => whnf))))
  exact ret_a (cs' := [_, _, _, _]) ⟨rc_p rfl, rc_p rfl, rc_p rfl, rc_p rfl, trivial⟩ ⟨_, _, _, _, rfl⟩
def mksOk (p : Pap) (ms : List Int) : Prop := ms.length = p.parts.length ∧ ∀ (i : Nat) (m : Int) (q : Prt), ms[i]? = some m → p.parts[i]? = some q → 0 ≤ m ∧ m ≤ q.max
theorem seed_ok (ps : List Pap) (x : Scr) (hl : ps.length ≤ 1000) (hp : ∀ (k : Nat) (p : Pap), ps[k]? = some p → OkPap p) (q : Pap) (hq : papF ps x = some q) : Good Try.prog TT true 49 [.tape, .lst 3 (ps.map encPap), .agg (encR x)] (fun r => ∃ ms, r = .agg [.int .i64 x.number, ints ms] ∧ mksOk q ms) := by
  have hqo : OkPap q := by
    obtain ⟨k, hk⟩ := List.getElem?_of_mem (List.mem_of_find?_eq_some hq)
    exact hp k q hk
  obtain ⟨hc0, hc1, hp1, hp3, -, hmax⟩ := hqo
  have hP := paperOf_ok ps x hl
  rw [hq] at hP
  have Lp : (q.parts.map encPrt).length = q.parts.length := List.length_map ..
  refine good_of mixed tabOk Try.func49 rfl rfl Try.ntmps49 Try.results49 rfl rfl ?_
  (conv => whnf); (repeat' (first | (refine arith_i ⟨by omega, by omega⟩ ?_; conv => whnf) | (refine arith_u ⟨by omega, by omega⟩ ?_; conv => whnf) | (refine arith_8 ⟨by omega, by omega⟩ ?_; conv => whnf) | (refine need_i (by first | omega | (simp only [List.length_cons, List.length_nil]; omega) | (simp only [List.length_append, List.length_cons, List.length_nil, List.length_map, List.length_replicate, List.length_modify]; omega)) ?_; conv => whnf) | ((with_reducible refine branch_tt ?_); conv => whnf) | ((with_reducible refine branch_ff ?_); conv => whnf) | (with_reducible refine branch_not ?_) | ((refine call_e hP ?_); conv => whnf) | ((with_reducible refine slc_e ?_); conv => whnf) | ((with_reducible refine callS_a ?_); conv => whnf) | ((with_reducible refine bld_a ?_); conv => whnf) | ((with_reducible refine own_e ?_); conv => whnf) | ((with_reducible refine mkmap_b ?_); conv => whnf) | (refine draw_i 14 plGL26l_3 (by decide +kernel) ?_; (conv => whnf); fail_if_success (guard_target =~ False)) | (refine draw_i 14 plGL26l_4 (by decide +kernel) ?_; (conv => whnf); fail_if_success (guard_target =~ False)) | (refine draw_i 14 plGL26l_5 (by decide +kernel) ?_; (conv => whnf); fail_if_success (guard_target =~ False)) | ((with_reducible refine And.intro ?_ ?_) <;> (conv => whnf)) | (with_reducible exact trivial) | ((with_reducible refine branch_d (fun hq => ?_) (fun hq => ?_)) <;> (try (exfalso; omega)) <;> (conv => whnf)) | ((with_reducible refine branch_e (fun hq => ?_) (fun hq => ?_)) <;> (try (exfalso; omega)) <;> (conv => whnf)) | ((with_reducible refine branch_n (fun hq => ?_) (fun hq => ?_)) <;> (try (exfalso; omega)) <;> (conv => whnf)) | ((with_reducible refine branch_i (fun hq => ?_) (fun hq => ?_)) <;> (try (exfalso; omega)) <;> (conv => whnf))))
  refine loop_i (fun ms : List Int => ms.length ≤ q.parts.length ∧ ∀ (i : Nat) (m : Int) (p : Prt), ms[i]? = some m → q.parts[i]? = some p → 0 ≤ m ∧ m ≤ p.max) (fun ms => mkSt [(0, .tape), (6, .ptr 6 0), (7, .ptr 7 0), (8, .ptr 8 0), (9, .int .i64 ms.length)] [(5, encR x), (6, [.int .i64 0, .nil]), (7, [.int .i64 x.number, .own 200 3 1 (ms.map encI)]), (8, encPap q)] true) (fun ms => q.parts.length - ms.length) [] ⟨Nat.zero_le _, nofun⟩ (Le.trans (le_adoptBox 7 1 200 3 1 rfl rfl) (le_mk ⟨rfl, rfl, rfl, rfl, rfl, trivial⟩ ⟨rfl, rfl, rfl, rfl, trivial⟩ rfl)) ?_
  rintro ms ⟨hml, hmo⟩
  have Lm : (ms.map encI).length = ms.length := List.length_map ..
  rcases Nat.lt_or_ge ms.length q.parts.length with hil | hil
  · obtain ⟨t, ht⟩ : ∃ t, q.parts[ms.length]? = some t := ⟨_, List.getElem?_eq_getElem hil⟩
    have htm := hmax t (List.mem_of_getElem? ht)
    (conv => whnf); (repeat' (first | (refine arith_i ⟨by omega, by omega⟩ ?_; conv => whnf) | (refine arith_u ⟨by omega, by omega⟩ ?_; conv => whnf) | (refine arith_8 ⟨by omega, by omega⟩ ?_; conv => whnf) | (refine need_i (by first | omega | (simp only [List.length_cons, List.length_nil]; omega) | (simp only [List.length_append, List.length_cons, List.length_nil, List.length_map, List.length_replicate, List.length_modify]; omega)) ?_; conv => whnf) | ((with_reducible refine branch_tt ?_); conv => whnf) | ((with_reducible refine branch_ff ?_); conv => whnf) | (with_reducible refine branch_not ?_) | ((refine idx_cs ht ?_); conv => whnf) | (((refine call_i (next_ok _ (by omega)) fun r hr => ?_; obtain ⟨y, rfl, -, hy⟩ := hr; replace hy := hy (by omega))); conv => whnf) | ((with_reducible refine slc_e ?_); conv => whnf) | ((with_reducible refine callS_a ?_); conv => whnf) | ((with_reducible refine bld_a ?_); conv => whnf) | ((with_reducible refine own_e ?_); conv => whnf) | ((with_reducible refine mkmap_b ?_); conv => whnf) | (refine draw_i 14 plGL26l_3 (by decide +kernel) ?_; (conv => whnf); fail_if_success (guard_target =~ False)) | (refine draw_i 14 plGL26l_4 (by decide +kernel) ?_; (conv => whnf); fail_if_success (guard_target =~ False)) | (refine draw_i 14 plGL26l_5 (by decide +kernel) ?_; (conv => whnf); fail_if_success (guard_target =~ False)) | ((with_reducible refine And.intro ?_ ?_) <;> (conv => whnf)) | (with_reducible exact trivial) | ((with_reducible refine branch_d (fun hq => ?_) (fun hq => ?_)) <;> (try (exfalso; omega)) <;> (conv => whnf)) | ((with_reducible refine branch_e (fun hq => ?_) (fun hq => ?_)) <;> (try (exfalso; omega)) <;> (conv => whnf)) | ((with_reducible refine branch_n (fun hq => ?_) (fun hq => ?_)) <;> (try (exfalso; omega)) <;> (conv => whnf)) | ((with_reducible refine branch_i (fun hq => ?_) (fun hq => ?_)) <;> (try (exfalso; omega)) <;> (conv => whnf))))
    refine ⟨ms ++ [y], ⟨by simp; omega, fun i m p hm hp => ?_⟩, le_mk ⟨rfl, rfl, rfl, rfl, int_eq (by simp), trivial⟩ ⟨rfl, rfl, ?_, rfl, trivial⟩ rfl, by simp; omega⟩
    · rcases snoc_at hm with ⟨_, h'⟩ | ⟨hk, rfl⟩
      · exact hmo i m p h' hp
      · subst hk; rw [ht] at hp; injection hp with hp; rw [← hp]; omega
    · simp only [List.map_append, List.map_cons, List.map_nil]
      rfl
  · (conv => whnf); (repeat' (first | (refine arith_i ⟨by omega, by omega⟩ ?_; conv => whnf) | (refine arith_u ⟨by omega, by omega⟩ ?_; conv => whnf) | (refine arith_8 ⟨by omega, by omega⟩ ?_; conv => whnf) | (refine need_i (by first | omega | (simp only [List.length_cons, List.length_nil]; omega) | (simp only [List.length_append, List.length_cons, List.length_nil, List.length_map, List.length_replicate, List.length_modify]; omega)) ?_; conv => whnf) | ((with_reducible refine branch_tt ?_); conv => whnf) | ((with_reducible refine branch_ff ?_); conv => whnf) | (with_reducible refine branch_not ?_) | ((with_reducible refine slc_e ?_); conv => whnf) | ((with_reducible refine callS_a ?_); conv => whnf) | ((with_reducible refine bld_a ?_); conv => whnf) | ((with_reducible refine own_e ?_); conv => whnf) | ((with_reducible refine mkmap_b ?_); conv => whnf) | (refine draw_i 14 plGL26l_3 (by decide +kernel) ?_; (conv => whnf); fail_if_success (guard_target =~ False)) | (refine draw_i 14 plGL26l_4 (by decide +kernel) ?_; (conv => whnf); fail_if_success (guard_target =~ False)) | (refine draw_i 14 plGL26l_5 (by decide +kernel) ?_; (conv => whnf); fail_if_success (guard_target =~ False)) | ((with_reducible refine And.intro ?_ ?_) <;> (conv => whnf)) | (with_reducible exact trivial) | ((with_reducible refine branch_d (fun hq => ?_) (fun hq => ?_)) <;> (try (exfalso; omega)) <;> (conv => whnf)) | ((with_reducible refine branch_e (fun hq => ?_) (fun hq => ?_)) <;> (try (exfalso; omega)) <;> (conv => whnf)) | ((with_reducible refine branch_n (fun hq => ?_) (fun hq => ?_)) <;> (try (exfalso; omega)) <;> (conv => whnf)) | ((with_reducible refine branch_i (fun hq => ?_) (fun hq => ?_)) <;> (try (exfalso; omega)) <;> (conv => whnf))))
    exact ret_a (cs' := [.int .i64 x.number, ints ms]) ⟨rc_p rfl, rc_o, trivial⟩ ⟨ms, rfl, by omega, hmo⟩
/-- A seed: its script is among the scripts, and the marks fit its paper. -/
def SedOk (ps : List Pap) (s : List Scr) (y : Sed) : Prop := ∃ (k : Nat) (x : Scr) (q : Pap), s[k]? = some x ∧ y.script = x.number ∧ papF ps x = some q ∧ mksOk q y.marks
theorem pap_found {ps : List Pap} {x : Scr} (h : PgS ps x) : ∃ q, papF ps x = some q := by
  obtain ⟨-, p, hp, h1, h2⟩ := h
  cases hf : papF ps x with
  | some q => exact ⟨q, rfl⟩
  | none =>
    have := List.find?_eq_none.1 hf p hp
    simp [papM, h1, h2] at this
structure StpOk (l : List Mrk) (s : List Scr) (ps : List Pap) (sd : List Sed) : Prop where
  mks : MksOk l
  l2 : 2 ≤ l.length
  l5 : l.length ≤ 5
  mrk : ∀ (k : Nat) (m : Mrk), l[k]? = some m → m.id ≤ 15 ∧ m.cap ≤ 6 ∧ ∀ x ∈ m.papers, x = 0 ∨ x = 1
  scs : ScsOk s
  s8 : s.length ≤ 8
  pgs : ∀ (k : Nat) (x : Scr), s[k]? = some x → PgS ps x
  p3 : ps.length ≤ 3
  pap : ∀ (k : Nat) (p : Pap), ps[k]? = some p → OkPap p
  sdl : sd.length ≤ s.length
  sds : ∀ y ∈ sd, SedOk ps s y
def stpV (l : List Mrk) (s : List Scr) (ps : List Pap) (es : List (List AV)) (sd : List Sed) (a b c e : Int) : List AV := [mrksV l, scrsV s, .lst 3 (ps.map encPap), .lst 2 es, sedsV sd, .int .i64 a, .int .i64 b, .int .i64 c, .int .i64 e]
def SetupR (r : AV) : Prop := ∃ l s ps es sd a b c e, r = .agg (stpV l s ps es sd a b c e) ∧ StpOk l s ps sd
set_option maxHeartbeats 4000000 in
theorem setup_ok : Good Try.prog TT true 31 [.tape] SetupR := by
  refine good_of mixed tabOk Try.func31 rfl rfl Try.ntmps31 Try.results31 rfl rfl ?_
  (conv => whnf); (repeat' (first | (refine arith_i ⟨by omega, by omega⟩ ?_; conv => whnf) | (refine arith_u ⟨by omega, by omega⟩ ?_; conv => whnf) | (refine arith_8 ⟨by omega, by omega⟩ ?_; conv => whnf) | (refine need_i (by first | omega | (simp only [List.length_cons, List.length_nil]; omega) | (simp only [List.length_append, List.length_cons, List.length_nil, List.length_map, List.length_replicate, List.length_modify]; omega)) ?_; conv => whnf) | ((with_reducible refine branch_tt ?_); conv => whnf) | ((with_reducible refine branch_ff ?_); conv => whnf) | (with_reducible refine branch_not ?_) | (((refine call_i markers_ok fun r hr => ?_; obtain ⟨l, rfl, hl, hl2, hl5, hid⟩ := hr)); conv => whnf) | (((refine call_i papers_ok fun r hr => ?_; obtain ⟨ps, es, rfl, hp3, hpo⟩ := hr)); conv => whnf) | (((refine call_i (scripts_ok ps hp3 hpo) fun r hr => ?_; obtain ⟨s, rfl, hs8, hs, hpg⟩ := hr; have LS : (s.map encR).length = s.length := List.length_map ..; have LL : (l.map encM).length = l.length := List.length_map ..)); conv => whnf) | (((refine call_i monitor_ok fun r hr => ?_; obtain ⟨m1, m2, m3, m4, rfl⟩ := hr)); conv => whnf) | ((with_reducible refine slc_e ?_); conv => whnf) | ((with_reducible refine callS_a ?_); conv => whnf) | ((with_reducible refine bld_a ?_); conv => whnf) | ((with_reducible refine own_e ?_); conv => whnf) | ((with_reducible refine mkmap_b ?_); conv => whnf) | (refine draw_i 13 plGL26l_7 (by decide +kernel) ?_; (conv => whnf); fail_if_success (guard_target =~ False)) | (refine draw_i 13 plGL26l_8 (by decide +kernel) ?_; (conv => whnf); fail_if_success (guard_target =~ False)) | (refine draw_i 13 plGL26l_9 (by decide +kernel) ?_; (conv => whnf); fail_if_success (guard_target =~ False)) | ((with_reducible refine And.intro ?_ ?_) <;> (conv => whnf)) | (with_reducible exact trivial) | ((with_reducible refine branch_d (fun hq => ?_) (fun hq => ?_)) <;> (try (exfalso; omega)) <;> (conv => whnf)) | ((with_reducible refine branch_e (fun hq => ?_) (fun hq => ?_)) <;> (try (exfalso; omega)) <;> (conv => whnf)) | ((with_reducible refine branch_n (fun hq => ?_) (fun hq => ?_)) <;> (try (exfalso; omega)) <;> (conv => whnf)) | ((with_reducible refine branch_i (fun hq => ?_) (fun hq => ?_)) <;> (try (exfalso; omega)) <;> (conv => whnf))))
  refine loop_i2 (fun (i : Nat) (sd : List Sed) => i ≤ s.length ∧ sd.length ≤ i ∧ ∀ y ∈ sd, SedOk ps s y) (fun i sd => mkSt [(0, .tape), (2, .ptr 2 0), (3, .lst 3 (ps.map encPap)), (5, .ptr 5 0), (6, .int .i64 i)] [(2, [.nil, .nil, .nil, .nil, .nil, .int .i64 0, .int .i64 0, .int .i64 0, .int .i64 0]), (5, [.own 13 65 5 (l.map encM), .own 16 63 7 (s.map encR), .lst 3 (ps.map encPap), .lst 2 es, .own 200 78 2 (sd.map encSd), .int .i64 m1, .int .i64 m2, .int .i64 m3, .int .i64 m4])] true) (fun i _ => s.length - i) 0 [] ⟨Nat.zero_le _, Nat.le_refl _, nofun⟩ (Le.trans (le_adoptBox 5 4 200 78 2 rfl rfl) (le_mk ⟨rfl, rfl, rfl, rfl, rfl, trivial⟩ ⟨rfl, rfl, trivial⟩ rfl)) ?_
  rintro i sd ⟨hi, hsl, hsd⟩
  have Ld : (sd.map encSd).length = sd.length := List.length_map ..
  rcases Nat.lt_or_ge i s.length with hil | hil
  · obtain ⟨x, hx⟩ : ∃ x, s[i]? = some x := ⟨_, List.getElem?_eq_getElem hil⟩
    obtain ⟨q, hpf⟩ := pap_found (hpg i x hx)
    (conv => whnf); (repeat' (first | (refine arith_i ⟨by omega, by omega⟩ ?_; conv => whnf) | (refine arith_u ⟨by omega, by omega⟩ ?_; conv => whnf) | (refine arith_8 ⟨by omega, by omega⟩ ?_; conv => whnf) | (refine need_i (by first | omega | (simp only [List.length_cons, List.length_nil]; omega) | (simp only [List.length_append, List.length_cons, List.length_nil, List.length_map, List.length_replicate, List.length_modify]; omega)) ?_; conv => whnf) | ((with_reducible refine branch_tt ?_); conv => whnf) | ((with_reducible refine branch_ff ?_); conv => whnf) | (with_reducible refine branch_not ?_) | ((refine idx_cs hx ?_); conv => whnf) | (((refine call_i (dbool_ok 3 (by omega)) fun r hr => ?_; obtain ⟨bb, rfl⟩ := hr; cases bb <;> (conv => whnf))); conv => whnf) | (((refine call_i (seed_ok ps x (by omega) hpo q hpf) fun r hr => ?_; obtain ⟨ms, rfl, hms⟩ := hr)); conv => whnf) | ((with_reducible refine slc_e ?_); conv => whnf) | ((with_reducible refine callS_a ?_); conv => whnf) | ((with_reducible refine bld_a ?_); conv => whnf) | ((with_reducible refine own_e ?_); conv => whnf) | ((with_reducible refine mkmap_b ?_); conv => whnf) | (refine draw_i 13 plGL26l_8 (by decide +kernel) ?_; (conv => whnf); fail_if_success (guard_target =~ False)) | (refine draw_i 13 plGL26l_9 (by decide +kernel) ?_; (conv => whnf); fail_if_success (guard_target =~ False)) | (refine draw_i 13 plGL26l_7 (by decide +kernel) ?_; (conv => whnf); fail_if_success (guard_target =~ False)) | ((with_reducible refine And.intro ?_ ?_) <;> (conv => whnf)) | (with_reducible exact trivial) | ((with_reducible refine branch_d (fun hq => ?_) (fun hq => ?_)) <;> (try (exfalso; omega)) <;> (conv => whnf)) | ((with_reducible refine branch_e (fun hq => ?_) (fun hq => ?_)) <;> (try (exfalso; omega)) <;> (conv => whnf)) | ((with_reducible refine branch_n (fun hq => ?_) (fun hq => ?_)) <;> (try (exfalso; omega)) <;> (conv => whnf)) | ((with_reducible refine branch_i (fun hq => ?_) (fun hq => ?_)) <;> (try (exfalso; omega)) <;> (conv => whnf))))
    · refine ⟨i + 1, sd, ⟨by omega, by omega, hsd⟩, (le_mk (by repeat' (first | exact trivial | rfl | apply And.intro)) (by repeat' (first | exact trivial | rfl | apply And.intro)) rfl), by omega⟩
    · have e1 : (sd ++ [Sed.mk x.number ms]).map encSd = sd.map encSd ++ [[.int .i64 x.number, ints ms]] := by rw [List.map_append]; rfl
      refine ⟨i + 1, sd ++ [⟨x.number, ms⟩], ⟨by omega, by simp; omega, fun y hy => ?_⟩, by rw [e1]; exact (le_mk (by repeat' (first | exact trivial | rfl | apply And.intro)) (by repeat' (first | exact trivial | rfl | apply And.intro)) rfl), by omega⟩
      rcases List.mem_append.1 hy with h | h
      · exact hsd y h
      · rw [List.mem_singleton] at h; subst h
        exact ⟨i, x, q, hx, rfl, hpf, hms⟩
  · (conv => whnf); (repeat' (first | (refine arith_i ⟨by omega, by omega⟩ ?_; conv => whnf) | (refine arith_u ⟨by omega, by omega⟩ ?_; conv => whnf) | (refine arith_8 ⟨by omega, by omega⟩ ?_; conv => whnf) | (refine need_i (by first | omega | (simp only [List.length_cons, List.length_nil]; omega) | (simp only [List.length_append, List.length_cons, List.length_nil, List.length_map, List.length_replicate, List.length_modify]; omega)) ?_; conv => whnf) | ((with_reducible refine branch_tt ?_); conv => whnf) | ((with_reducible refine branch_ff ?_); conv => whnf) | (with_reducible refine branch_not ?_) | ((with_reducible refine slc_e ?_); conv => whnf) | ((with_reducible refine callS_a ?_); conv => whnf) | ((with_reducible refine bld_a ?_); conv => whnf) | ((with_reducible refine own_e ?_); conv => whnf) | ((with_reducible refine mkmap_b ?_); conv => whnf) | (refine draw_i 13 plGL26l_7 (by decide +kernel) ?_; (conv => whnf); fail_if_success (guard_target =~ False)) | (refine draw_i 13 plGL26l_8 (by decide +kernel) ?_; (conv => whnf); fail_if_success (guard_target =~ False)) | (refine draw_i 13 plGL26l_9 (by decide +kernel) ?_; (conv => whnf); fail_if_success (guard_target =~ False)) | ((with_reducible refine And.intro ?_ ?_) <;> (conv => whnf)) | (with_reducible exact trivial) | ((with_reducible refine branch_d (fun hq => ?_) (fun hq => ?_)) <;> (try (exfalso; omega)) <;> (conv => whnf)) | ((with_reducible refine branch_e (fun hq => ?_) (fun hq => ?_)) <;> (try (exfalso; omega)) <;> (conv => whnf)) | ((with_reducible refine branch_n (fun hq => ?_) (fun hq => ?_)) <;> (try (exfalso; omega)) <;> (conv => whnf)) | ((with_reducible refine branch_i (fun hq => ?_) (fun hq => ?_)) <;> (try (exfalso; omega)) <;> (conv => whnf))))
    exact ret_a (cs' := stpV l s ps es sd m1 m2 m3 m4) ⟨rc_o, rc_o, rc_p rfl, rc_p rfl, rc_o, rc_p rfl, rc_p rfl, rc_p rfl, rc_p rfl, trivial⟩ ⟨l, s, ps, es, sd, m1, m2, m3, m4, rfl, hl, hl2, hl5, hid, hs, hs8, hpg, hp3, hpo, by omega, hsd⟩
end Go.Proofs.Ytpmoflggmdfmnaa
end

/- Layer 26: Common of the reference. -/
section
namespace Go.Proofs.Ytpmoflggmdfmnaa
set_option linter.unusedVariables false
set_option linter.unusedSimpArgs false
set_option linter.unnecessarySimpa false
set_option linter.unusedSectionVars false
set_option maxRecDepth 10000
open Go.RowKit
end Go.Proofs.Ytpmoflggmdfmnaa
end

/- Slices of the function's own are sorted or turned round: the shelf's contracts in the interpreter's words. -/
section
namespace Go.Proofs.Ytpmoflggmdfmnaa
set_option linter.unusedVariables false
set_option linter.unusedSimpArgs false
set_option linter.unnecessarySimpa false
set_option linter.unusedSectionVars false
set_option maxRecDepth 10000
open Go.RowKit Go.Shelf Go.Sort
section
variable {P : Program} {tt : Nat} {b : Bool} {f : Nat}
theorem ints_css {w : World} {X : Nat → Prop} : ∀ {xs : List Int} {css : List (List Value)}, All2 (fun ds cs => ds.length = 1 ∧ All2 (RepV w X) ds cs) (xs.map encI) css → css = xs.map fun x => [Value.int .i64 x]
  | [], [], _ => rfl
  | x :: xs, c :: css, h => by
    obtain ⟨h1, h2⟩ := h
    have e := ints_css h2
    obtain ⟨u, us, rfl, h3, h4⟩ := h1.2.cons_inv
    obtain rfl := h4.nil_inv
    cases h3
    rw [e]; rfl
  | [], _ :: _, h => h.elim
  | _ :: _, [], h => h.elim
theorem css_ints {w : World} {X : Nat → Prop} : ∀ {xs : List Int}, All2 (fun ds cs => ds.length = 1 ∧ All2 (RepV w X) ds cs) (xs.map encI) (xs.map fun x => [Value.int .i64 x])
  | [] => trivial
  | x :: xs => ⟨⟨rfl, .int _ _, trivial⟩, css_ints⟩
theorem flat1 {α β : Type} (g : α → β) : ∀ xs : List α, (xs.map fun x => [g x]).flatten = xs.map g
  | [] => rfl
  | x :: xs => by simp [flat1 g xs]
theorem put_take (cur : Array Value) (ys : List Int) (h : ys.length ≤ cur.size) : (cur.toList.take (0 * 1) ++ (ys.map fun x => [Value.int .i64 x]).flatten ++ cur.toList.drop (0 * 1 + (ys.map fun x => [Value.int .i64 x]).flatten.length)).toArray = putCells (Value.int .i64) 0 ys.toArray cur := by
  apply Array.ext'
  simp only [flat1, Nat.zero_mul, List.take_zero, List.nil_append, Nat.zero_add, List.length_map]
  apply List.ext_getElem?
  intro j
  refine Eq.trans ?_ Array.getElem?_toList.symm
  show (ys.map (Value.int .i64) ++ cur.toList.drop ys.length)[j]? = _
  by_cases hj : j < ys.length
  · rw [List.getElem?_append_left (by simpa using hj)]
    simp [putCells, hj, show j < cur.size by omega]
  · rw [List.getElem?_append_right (by simpa using hj)]
    simp [putCells, hj, List.getElem?_drop, show ys.length + (j - ys.length) = j by omega]
/-- A function that lays other numbers into a slice of numbers. -/
theorem refill_ok (hent : Enters P f) (xs ys : List Int) (hl : ys.length = xs.length) (E : Nat)
    (hcall : ∀ (w : World) (g cap : Nat), Holds (Value.int .i64) w g 0 xs.toArray → g < w.heap.size → Calls P f #[.slice (some ⟨g, 0, none⟩) xs.length cap] w fun e w' => e = .returned (.tuple #[]) ∧ ∃ n os, w' = grow (putRow (Value.int .i64) (Sort.ahead w n) g 0 ys.toArray) os)
    (hnil : ∀ (w : World), Calls P f #[.slice none 0 0] w fun e w' => e = .returned (.tuple #[]) ∧ w' = w) :
    GoodM P tt b f [.own 0 E 1 (xs.map encI)] [] (fun r ov bx' => r = .tup [] ∧ ov = [(1000, .own 0 E 1 (ys.map encI))] ∧ bx' = []) := by
  refine ⟨hent, fun w0 G us S hA => ?_⟩
  obtain ⟨u, us', rfl, h1, h2⟩ := hA.cons_inv
  obtain rfl := h2.nil_inv
  obtain ⟨hT, css, ho, hcs⟩ := (show RC w0.B G w0.toWorld (.own 0 E 1 (xs.map encI)) u from h1)
  obtain rfl := ints_css hcs
  rcases ho.2 with ⟨rfl, h0⟩ | ⟨g, cap, cur, rfl, hg, hh, hc, hm, hsz, ht⟩
  · have hx : xs = [] := List.eq_nil_of_length_eq_zero (by simpa using h0)
    subst hx
    have hy : ys = [] := List.eq_nil_of_length_eq_zero (by simpa using hl)
    subst hy
    refine (hnil _).mono ?_
    rintro e w' ⟨rfl, rfl⟩
    exact ⟨_, .tup [], _, [], G, rfl, ⟨rfl, rfl, rfl⟩, S, ⟨[], rfl, trivial⟩⟩
  · have hlen : (xs.map encI).length = xs.length := List.length_map ..
    rw [hlen] at hc ht ⊢
    rw [Nat.mul_one, flat1] at ht
    have hlt : g < w0.toWorld.heap.size := (Array.getElem?_eq_some_iff.1 hh).1
    have hcur : ys.length ≤ cur.size := by omega
    refine (hcall _ g cap (holds_of_blockI hh ht) hlt).mono ?_
    rintro e w' ⟨rfl, n, os, rfl⟩
    have S1 := S.copyOwn (src := ys.map encI) (dss := ys.map fun x => [Value.int .i64 x]) (lo := 0) (z := 1) (T := 0) (n := (xs.map encI).length) hT hh (by simp [hl]) (by simp; omega) css_ints
    rw [put_take cur ys hcur] at S1
    have S2 := S1.world (w' := grow (putRow (Value.int .i64) (Sort.ahead w0.toWorld n) g 0 ys.toArray) os) ?sz ?bl ?ch
    case sz => simp [World.setRow, grow, putRow, mapBlock, Sort.ahead]
    case bl =>
      intro k hk
      by_cases hkg : k = g
      · subst hkg
        rw [heap_sortedI _ hh, setRow_heap _ _ _ _ _ _ hh]
      · rw [setRow_other _ _ _ _ hkg]
        have := (grownBy_sortedI (w := w0.toWorld) (g := g) (n := n) (os := os) ys.toArray).block k (by simpa [World.setRow] using hk) (by simpa using hkg)
        exact this
    case ch =>
      refine S.chg.grown (row := some g) (grownBy_sortedI _) fun k hk => ?_
      injection hk with hk
      subst hk
      rcases (S.ownLt 0 _ g hT rfl).1 with h | h
      · exact .inr h
      · exact .inl (.inr h)
    refine ⟨_, .tup [], [(1000, .own 0 E 1 (ys.map encI))], [], G, rfl, ⟨rfl, rfl, rfl⟩, ?_, ⟨[], rfl, trivial⟩⟩
    have e : spl (xs.map encI) 0 (ys.map encI) = ys.map encI := by simp [spl, hl]
    refine { S2 with slot := fun i => ?_, box := fun t cs h => by cases h }
    by_cases hi : i = 1000
    · subst hi
      have := S2.slot 1000
      rw [show ((mkSt (ovOf 1000 [AV.own 0 E 1 (xs.map encI)]) [] b).map (copyF 0 1 0 (ys.map encI))).slot 1000 = .own 0 E 1 (spl (xs.map encI) 0 (ys.map encI)) from rfl, e] at this
      exact this
    · rw [show (mkSt [(1000, AV.own 0 E 1 (ys.map encI))] [] b).slot i = .undef from by simp [mkSt, lk, beq_ne hi]]
      trivial
/-- A function that lays fewer numbers into a slice of numbers and returns that part. -/
theorem shrink_ok (hent : Enters P f) (xs ys : List Int) (hl : ys.length ≤ xs.length) (E : Nat)
    (hcall : ∀ (w : World) (g cap : Nat), Holds (Value.int .i64) w g 0 xs.toArray → g < w.heap.size → xs.length ≤ cap → Calls P f #[.slice (some ⟨g, 0, none⟩) xs.length cap] w fun e w' => e = .returned (.slice (some ⟨g, 0, none⟩) ys.length cap) ∧ ∃ n os, w' = grow (putRow (Value.int .i64) (Sort.ahead w n) g 0 (ys ++ List.replicate (xs.length - ys.length) 0).toArray) os)
    (hnil : ∀ (w : World), Calls P f #[.slice none 0 0] w fun e w' => e = .returned (.slice none 0 0) ∧ w' = w) :
    GoodM P tt b f [.own 0 E 1 (xs.map encI)] [] (fun r ov bx' => r = .own 0 E 1 (ys.map encI) ∧ ov = [] ∧ bx' = []) := by
  generalize hzs : ys ++ List.replicate (xs.length - ys.length) 0 = zs at hcall
  have hzl : zs.length = xs.length := by rw [← hzs]; simp; omega
  have hzt : zs.take ys.length = ys := by rw [← hzs]; simp
  refine ⟨hent, fun w0 G us S hA => ?_⟩
  obtain ⟨u, us', rfl, h1, h2⟩ := hA.cons_inv
  obtain rfl := h2.nil_inv
  obtain ⟨hT, css, ho, hcs⟩ := (show RC w0.B G w0.toWorld (.own 0 E 1 (xs.map encI)) u from h1)
  obtain rfl := ints_css hcs
  have hS0 : ∀ {s : St} {G : Gh} {w' : World}, Sim tt w0 G s a0 w' → s.tp = b → Sim tt w0 G (mkSt [] [] b) a0 w' := fun {s G w'} S' hb => by
    subst hb
    exact { S' with slot := fun i => trivial, box := fun t cs h => by cases h }
  rcases ho.2 with ⟨rfl, h0⟩ | ⟨g, cap, cur, rfl, hg, hh, hc, hm, hsz, ht⟩
  · have hx : xs = [] := List.eq_nil_of_length_eq_zero (by simpa using h0)
    subst hx
    have hy : ys = [] := List.eq_nil_of_length_eq_zero (by simpa using hl)
    subst hy
    refine (hnil _).mono ?_
    rintro e w' ⟨rfl, rfl⟩
    exact ⟨_, .own 0 E 1 [], [], [], G, rfl, ⟨rfl, rfl, rfl⟩, hS0 S rfl, h1⟩
  · have hlen : (xs.map encI).length = xs.length := List.length_map ..
    rw [hlen] at hc ht ⊢
    rw [Nat.mul_one, flat1] at ht
    have hlt : g < w0.toWorld.heap.size := (Array.getElem?_eq_some_iff.1 hh).1
    have hcur : zs.length ≤ cur.size := by omega
    refine (hcall _ g cap (holds_of_blockI hh ht) hlt hc).mono ?_
    rintro e w' ⟨rfl, n, os, rfl⟩
    have S1 := S.copyOwn (src := zs.map encI) (dss := zs.map fun x => [Value.int .i64 x]) (lo := 0) (z := 1) (T := 0) (n := (xs.map encI).length) hT hh (by simp [hzl]) (by simp; omega) css_ints
    rw [put_take cur zs hcur] at S1
    have S2 := S1.world (w' := grow (putRow (Value.int .i64) (Sort.ahead w0.toWorld n) g 0 zs.toArray) os) ?sz ?bl ?ch
    case sz => simp [World.setRow, grow, putRow, mapBlock, Sort.ahead]
    case bl =>
      intro k hk
      by_cases hkg : k = g
      · subst hkg
        rw [heap_sortedI _ hh, setRow_heap _ _ _ _ _ _ hh]
      · rw [setRow_other _ _ _ _ hkg]
        have := (grownBy_sortedI (w := w0.toWorld) (g := g) (n := n) (os := os) zs.toArray).block k (by simpa [World.setRow] using hk) (by simpa using hkg)
        exact this
    case ch =>
      refine S.chg.grown (row := some g) (grownBy_sortedI _) fun k hk => ?_
      injection hk with hk
      subst hk
      rcases (S.ownLt 0 _ g hT rfl).1 with h | h
      · exact .inr h
      · exact .inl (.inr h)
    have e : spl (xs.map encI) 0 (zs.map encI) = zs.map encI := by simp [spl, hzl]
    have hsl := S2.slot 1000
    rw [show ((mkSt (ovOf 1000 [AV.own 0 E 1 (xs.map encI)]) [] b).map (copyF 0 1 0 (zs.map encI))).slot 1000 = .own 0 E 1 (spl (xs.map encI) 0 (zs.map encI)) from rfl, e] at hsl
    obtain ⟨hT2, css2, ho2, hcs2⟩ := (show RC w0.B G _ (.own 0 E 1 (zs.map encI)) _ from hsl)
    rw [hT] at hT2
    injection hT2 with hT2
    rw [← hT2] at ho2
    obtain rfl := ints_css hcs2
    rcases ho2.2 with ⟨e0, _⟩ | ⟨g2, cap2, cur2, eu, k1, k2, k3, k4, k5, k6⟩
    · cases e0
    · simp only [Value.slice.injEq, Option.some.injEq, Addr.mk.injEq, and_true] at eu
      obtain ⟨rfl, -, rfl⟩ := eu
      have S3 := S2.setOwn 0 (.slice (some ⟨g, 0, none⟩) ys.length cap) (Nat.le_refl _) (fun _ _ _ => rfl) (fun b hb' => .inl ⟨_, hT, hb'⟩) S2.chg
      refine ⟨_, .own 0 E 1 (ys.map encI), [], [], { G with own := upd G.own 0 (some (.slice (some ⟨g, 0, none⟩) ys.length cap)) }, rfl, ⟨rfl, rfl, rfl⟩, hS0 S3 rfl, ?_⟩
      have hly : (ys.map encI).length = ys.length := List.length_map ..
      rw [flat1, List.length_map, hzl, Nat.mul_one] at k6
      refine show RC w0.B { G with own := upd G.own 0 (some (.slice (some ⟨g, 0, none⟩) ys.length cap)) } _ (.own 0 E 1 (ys.map encI)) _ from ⟨by simp [upd], ys.map fun x => [Value.int .i64 x], ⟨?_, .inr ⟨g, cap, cur2, by rw [hly], k1, k2, by rw [hly]; omega, k4, k5, ?_⟩⟩, css_ints⟩
      · rw [flat1]; simp
      · rw [flat1, hly, Nat.mul_one]
        have := congrArg (List.take ys.length) k6
        rw [List.take_take, Nat.min_eq_left hl, ← List.map_take, hzt] at this
        exact this
end
end Go.Proofs.Ytpmoflggmdfmnaa
end

/- The shelf's contracts laid at this program, in plain text. (Printed by wip/mkshl.py.) -/
section
namespace Go.Proofs.Ytpmoflggmdfmnaa
set_option linter.unusedVariables false
set_option maxRecDepth 100000
open Go.Shelf Go.Sort Go.RowKit
def laysSort_ren : Go.Shelf.Ren := ⟨fun | 189 => 97 | 125 => 109 | 257 => 108 | 128 => 120 | 129 => 121 | 294 => 111 | 295 => 112 | 296 => 113 | 297 => 114 | 298 => 115 | 299 => 116 | 216 => 117 | 300 => 118 | 301 => 119 | 328 => 122 | 329 => 123 | 330 => 124 | 331 => 125 | 332 => 126 | 215 => 107 | 343 => 127 | n => n, fun | 28 => 22 | 3 => 3 | 46 => 147 | 0 => 0 | 51 => 159 | 53 => 161 | 4 => 4 | 183 => 152 | 182 => 151 | 131 => 38 | 5 => 5 | 9 => 9 | 218 => 162 | 222 => 166 | 228 => 168 | 229 => 169 | n => n, fun | n => n⟩
theorem laysSort : Lays.n189 Try.prog laysSort_ren := {
  mixed := by kernel_rfl,
  f125 := Try.func109.trans (congrArg some (by kernel_rfl)),
  f128 := Try.func120.trans (congrArg some (by kernel_rfl)),
  f129 := Try.func121.trans (congrArg some (by kernel_rfl)),
  f189 := Try.func97.trans (congrArg some (by kernel_rfl)),
  f215 := Try.func107.trans (congrArg some (by kernel_rfl)),
  f216 := Try.func117.trans (congrArg some (by kernel_rfl)),
  f257 := Try.func108.trans (congrArg some (by kernel_rfl)),
  f294 := Try.func111.trans (congrArg some (by kernel_rfl)),
  f295 := Try.func112.trans (congrArg some (by kernel_rfl)),
  f296 := Try.func113.trans (congrArg some (by kernel_rfl)),
  f297 := Try.func114.trans (congrArg some (by kernel_rfl)),
  f298 := Try.func115.trans (congrArg some (by kernel_rfl)),
  f299 := Try.func116.trans (congrArg some (by kernel_rfl)),
  f300 := Try.func118.trans (congrArg some (by kernel_rfl)),
  f301 := Try.func119.trans (congrArg some (by kernel_rfl)),
  f328 := Try.func122.trans (congrArg some (by kernel_rfl)),
  f329 := Try.func123.trans (congrArg some (by kernel_rfl)),
  f330 := Try.func124.trans (congrArg some (by kernel_rfl)),
  f331 := Try.func125.trans (congrArg some (by kernel_rfl)),
  f332 := Try.func126.trans (congrArg some (by kernel_rfl)),
  f343 := Try.func127.trans (congrArg some (by kernel_rfl)),
  t0 := Try.underlying0,
  a0 := Try.isAgg0,
  z0 := Try.sizeOf0,
  v0 := Try.zeroValue0,
  t3 := Try.underlying3,
  a3 := Try.isAgg3,
  z3 := Try.sizeOf3,
  v3 := Try.zeroValue3,
  t4 := Try.underlying4,
  a4 := Try.isAgg4,
  z4 := Try.sizeOf4,
  v4 := Try.zeroValue4,
  t5 := Try.underlying5,
  a5 := Try.isAgg5,
  z5 := Try.sizeOf5,
  v5 := Try.zeroValue5,
  t9 := Try.underlying9,
  a9 := Try.isAgg9,
  z9 := Try.sizeOf9,
  v9 := Try.zeroValue9,
  t28 := Try.underlying22,
  a28 := Try.isAgg22,
  z28 := Try.sizeOf22,
  v28 := Try.zeroValue22,
  t46 := Try.underlying147,
  a46 := Try.isAgg147,
  z46 := Try.sizeOf147,
  v46 := Try.zeroValue147,
  t51 := Try.underlying159,
  a51 := Try.isAgg159,
  z51 := Try.sizeOf159,
  v51 := Try.zeroValue159,
  t53 := Try.underlying161,
  a53 := Try.isAgg161,
  z53 := Try.sizeOf161,
  v53 := Try.zeroValue161,
  t131 := Try.underlying38,
  a131 := Try.isAgg38,
  z131 := Try.sizeOf38,
  v131 := Try.zeroValue38,
  t182 := Try.underlying151,
  a182 := Try.isAgg151,
  z182 := Try.sizeOf151,
  v182 := Try.zeroValue151,
  t183 := Try.underlying152,
  a183 := Try.isAgg152,
  z183 := Try.sizeOf152,
  v183 := Try.zeroValue152,
  t218 := Try.underlying162,
  a218 := Try.isAgg162,
  z218 := Try.sizeOf162,
  v218 := Try.zeroValue162,
  t222 := Try.underlying166,
  a222 := Try.isAgg166,
  z222 := Try.sizeOf166,
  v222 := Try.zeroValue166,
  t228 := Try.underlying168,
  a228 := Try.isAgg168,
  z228 := Try.sizeOf168,
  v228 := Try.zeroValue168,
  t229 := Try.underlying169,
  a229 := Try.isAgg169,
  z229 := Try.sizeOf169,
  v229 := Try.zeroValue169 }
def laysCpt_ren : Go.Shelf.Ren := ⟨fun | 20 => 98 | n => n, fun | 22 => 22 | 3 => 3 | 4 => 4 | 0 => 0 | n => n, fun | n => n⟩
theorem laysCpt : Lays2.n20 Try.prog laysCpt_ren := {
  mixed := by kernel_rfl,
  f20 := Try.func98.trans (congrArg some (by kernel_rfl)),
  t0 := Try.underlying0,
  a0 := Try.isAgg0,
  z0 := Try.sizeOf0,
  v0 := Try.zeroValue0,
  t3 := Try.underlying3,
  a3 := Try.isAgg3,
  z3 := Try.sizeOf3,
  v3 := Try.zeroValue3,
  t4 := Try.underlying4,
  a4 := Try.isAgg4,
  z4 := Try.sizeOf4,
  v4 := Try.zeroValue4,
  t22 := Try.underlying22,
  a22 := Try.isAgg22,
  z22 := Try.sizeOf22,
  v22 := Try.zeroValue22,
  i3 := by kernel_rfl }
theorem sortI_ok {b : Bool} (xs : List Int) (hl : xs.length ≤ 1000000) : GoodM Try.prog TT b 97 [.own 0 3 1 (xs.map encI)] [] (fun r ov bx' => r = .tup [] ∧ ov = [(1000, .own 0 3 1 ((xs.mergeSort fun x y => decide (x ≤ y)).map encI))] ∧ bx' = []) :=
  refill_ok (enters_of Try.func97 rfl rfl) xs _ (by simp) _ (fun w g cap hH hb => Any.slices_Sort_int laysSort g 0 cap xs w hH hb (by omega)) (fun w => Any.slices_Sort_int_none laysSort none 0 w)
theorem compact_le {xs : List Int} : (Lib.compact xs).length ≤ xs.length := by
  unfold Lib.compact Lib.compactUpTo
  rw [List.length_map]
  exact Nat.le_trans (List.length_filter_le ..) (by simp)
theorem compactI_ok {b : Bool} (xs : List Int) (hl : xs.length ≤ 1000000) : GoodM Try.prog TT b 98 [.own 0 3 1 (xs.map encI)] [] (fun r ov bx' => r = .own 0 3 1 ((Lib.compact xs).map encI) ∧ ov = [] ∧ bx' = []) :=
  shrink_ok (enters_of Try.func98 rfl rfl) xs _ compact_le _ (fun w g cap hH hb hc => (Any.slices_Compact_int laysCpt g 0 cap xs w hH (by omega) hc).mono fun e w' h => ⟨h.1, by obtain ⟨n, hn⟩ := h.2; exact ⟨n, #[], by rw [hn, grow_empty]⟩⟩) (fun w => Any.slices_Compact_int_empty laysCpt none 0 w)
end Go.Proofs.Ytpmoflggmdfmnaa
end

/- Layer 26: the queue of a marker: of the program. -/
section
namespace Go.Proofs.Ytpmoflggmdfmnaa
set_option linter.unusedVariables false
set_option linter.unusedSimpArgs false
set_option linter.unnecessarySimpa false
set_option linter.unusedSectionVars false
set_option maxRecDepth 10000
open Go.RowKit
def ownB (l : List Mrk) (s : List Scr) (id : Int) (t : Int × Int) : Bool := t.2 == id && (match findS s t.1 with | some p => elM l s id p | none => false)
  where elM (l : List Mrk) (s : List Scr) (id : Int) (p : Nat) : Bool := match s[p]? with | some x => eligB l id x | none => false
def ownQ (l : List Mrk) (s : List Scr) (id : Int) (ts : List (Int × Int)) : List Int := (ts.filter (ownB l s id)).map (·.1)
def comQ (l : List Mrk) (s : List Scr) (id : Int) (is : List Int) : List Int := (is.filter fun i => ownB.elM l s id i.toNat).map fun i => numF s i.toNat
def queueF (l : List Mrk) (s : List Scr) (ts : List (Int × Int)) (k id : Int) : List Int := mergeF (Lib.compact ((ownQ l s id ts).mergeSort fun x y => decide (x ≤ y))) (comQ l s id (idxsF s.length k))
theorem ownQ_next {l : List Mrk} {s : List Scr} {id : Int} {ts : List (Int × Int)} {i : Nat} {t : Int × Int} (h : ts[i]? = some t) : ownQ l s id (ts.take (i + 1)) = ownQ l s id (ts.take i) ++ if ownB l s id t = true then [t.1] else [] := by
  unfold ownQ; rw [List.take_add_one, h, List.filter_append, List.map_append]
  by_cases g : ownB l s id t = true <;> simp [g]
theorem ownQ_len {l : List Mrk} {s : List Scr} {id : Int} {ts : List (Int × Int)} : (ownQ l s id ts).length ≤ ts.length := by unfold ownQ; rw [List.length_map]; exact List.length_filter_le ..
theorem comQ_next {l : List Mrk} {s : List Scr} {id : Int} {is : List Int} {i : Nat} {t : Int} (h : is[i]? = some t) : comQ l s id (is.take (i + 1)) = comQ l s id (is.take i) ++ if ownB.elM l s id t.toNat = true then [numF s t.toNat] else [] := by
  unfold comQ; rw [List.take_add_one, h, List.filter_append, List.map_append]
  by_cases g : ownB.elM l s id t.toNat = true <;> simp [g]
theorem comQ_len {l : List Mrk} {s : List Scr} {id : Int} {is : List Int} : (comQ l s id is).length ≤ is.length := by unfold comQ; rw [List.length_map]; exact List.length_filter_le ..
set_option maxHeartbeats 8000000 in
theorem queue_ok (l : List Mrk) (s : List Scr) (ts : List (Int × Int)) (k id : Int) (ht : ts.length ≤ 1000) (hl : MksOk l) (hs : ScsOk s) (hk64 : k ≤ 9223372036854775807) : Good Try.prog TT false 71 [mrksV l, scrsV s, tasksV ts, .int .i64 k, .int .i64 id] (· = .own 0 3 1 ((queueF l s ts k id).map encI)) := by
  have LL : (l.map encM).length = l.length := List.length_map ..
  have LS : (s.map encR).length = s.length := List.length_map ..
  have LT : (ts.map encT).length = ts.length := List.length_map ..
  have h16 := hl.len
  have h60 := hs.len
  have hC := checkScripts_ok s s.length hs.len (Nat.le_refl _) (fun k x h => (hs.all k x h).1) (fun k x _ h => (hs.all k x h).2) (fun x h => by rw [List.getElem?_eq_none (Nat.le_refl _)] at h; cases h) hs.asc
  rw [if_pos rfl] at hC
  refine good_of mixed tabOk Try.func71 rfl rfl Try.ntmps71 Try.results71 rfl rfl ?_
  (conv => whnf); (repeat' (first | (refine arith_i ⟨by omega, by omega⟩ ?_; conv => whnf) | (refine arith_u ⟨by omega, by omega⟩ ?_; conv => whnf) | (refine arith_8 ⟨by omega, by omega⟩ ?_; conv => whnf) | (refine need_i (by first | omega | (simp only [List.length_cons, List.length_nil]; omega) | (simp only [List.length_append, List.length_cons, List.length_nil, List.length_map, List.length_replicate, List.length_modify]; omega)) ?_; conv => whnf) | ((with_reducible refine branch_tt ?_); conv => whnf) | ((with_reducible refine branch_ff ?_); conv => whnf) | (with_reducible refine branch_not ?_) | ((refine call_e (check_ok l hl.len hl.all hl.asc) ?_); conv => whnf) | ((refine call_e hC ?_); conv => whnf) | ((with_reducible refine slc_e ?_); conv => whnf) | ((with_reducible refine callS_a ?_); conv => whnf) | ((with_reducible refine bld_a ?_); conv => whnf) | ((with_reducible refine own_e ?_); conv => whnf) | ((with_reducible refine mkmap_b ?_); conv => whnf) | ((with_reducible refine branch_d (fun hq => ?_) (fun hq => ?_)) <;> (try (exfalso; omega)) <;> (conv => whnf)) | ((with_reducible refine branch_e (fun hq => ?_) (fun hq => ?_)) <;> (try (exfalso; omega)) <;> (conv => whnf)) | ((with_reducible refine branch_n (fun hq => ?_) (fun hq => ?_)) <;> (try (exfalso; omega)) <;> (conv => whnf)) | ((with_reducible refine branch_i (fun hq => ?_) (fun hq => ?_)) <;> (try (exfalso; omega)) <;> (conv => whnf))))
  refine loop_i (fun i : Nat => i ≤ ts.length) (fun i => mkSt [(0, mrksV l), (1, scrsV s), (3, .int .i64 k), (4, .int .i64 id), (11, .own 200 3 1 ((ownQ l s id (ts.take i)).map encI)), (27, tasksV ts), (28, .int .i64 ts.length), (29, .int .i64 i)] [] false) (fun i => ts.length - i) 0 (Nat.zero_le _) (Le.trans (le_adopt 11 200 3 1 rfl) (le_mk ⟨rfl, rfl, rfl, rfl, rfl, rfl, int_eq (by rw [LT]), rfl, trivial⟩ trivial rfl)) ?_
  intro i hi
  have hq1 := ownQ_len (l := l) (s := s) (id := id) (ts := ts.take i)
  have hq2 : (ts.take i).length ≤ ts.length := by simp; omega
  have hq3 : ((ownQ l s id (ts.take i)).map encI).length = (ownQ l s id (ts.take i)).length := List.length_map ..
  rcases Nat.lt_or_ge i ts.length with hil | hil
  · obtain ⟨t, ht'⟩ : ∃ t, ts[i]? = some t := ⟨_, List.getElem?_eq_getElem hil⟩
    have hnx := ownQ_next (l := l) (s := s) (id := id) ht'
    by_cases hid : t.2 = id
    · cases hf : findS s t.1 with
      | none =>
        have hB : ownB l s id t = false := by unfold ownB; rw [hf]; simp
        rw [hB, if_neg (by simp), List.append_nil] at hnx
        (conv => whnf); (repeat' (first | (refine arith_i ⟨by omega, by omega⟩ ?_; conv => whnf) | (refine arith_u ⟨by omega, by omega⟩ ?_; conv => whnf) | (refine arith_8 ⟨by omega, by omega⟩ ?_; conv => whnf) | (refine need_i (by first | omega | (simp only [List.length_cons, List.length_nil]; omega) | (simp only [List.length_append, List.length_cons, List.length_nil, List.length_map, List.length_replicate, List.length_modify]; omega)) ?_; conv => whnf) | ((with_reducible refine branch_tt ?_); conv => whnf) | ((with_reducible refine branch_ff ?_); conv => whnf) | (with_reducible refine branch_not ?_) | ((refine idx_cs ht' ?_); conv => whnf) | (((refine call_e ((sFind_ok s t.1 hs).mono fun r h => (by unfold ScriptR at h; rw [hf] at h; exact h : r = .tup [scr0R, .bool false])) ?_)); conv => whnf) | ((with_reducible refine slc_e ?_); conv => whnf) | ((with_reducible refine callS_a ?_); conv => whnf) | ((with_reducible refine bld_a ?_); conv => whnf) | ((with_reducible refine own_e ?_); conv => whnf) | ((with_reducible refine mkmap_b ?_); conv => whnf) | ((with_reducible refine branch_d (fun hq => ?_) (fun hq => ?_)) <;> (try (exfalso; omega)) <;> (conv => whnf)) | ((with_reducible refine branch_e (fun hq => ?_) (fun hq => ?_)) <;> (try (exfalso; omega)) <;> (conv => whnf)) | ((with_reducible refine branch_n (fun hq => ?_) (fun hq => ?_)) <;> (try (exfalso; omega)) <;> (conv => whnf)) | ((with_reducible refine branch_i (fun hq => ?_) (fun hq => ?_)) <;> (try (exfalso; omega)) <;> (conv => whnf))))
        all_goals first | exact ⟨i + 1, by omega, by rw [hnx]; exact (le_mk (by repeat' (first | exact trivial | rfl | apply And.intro)) (by repeat' (first | exact trivial | rfl | apply And.intro)) rfl), by omega⟩
      | some p =>
        obtain ⟨x, hx, hn⟩ := findS_at hf
        have hScr : Good Try.prog TT false 72 [scrsV s, .int .i64 t.1] (· = .tup [.agg (encR x), .bool true]) := (sFind_ok s t.1 hs).mono fun r h => by
          unfold ScriptR at h; rw [hf] at h; obtain ⟨x', hx', h⟩ := h; rw [hx] at hx'; injection hx' with hx'; rw [hx']; exact h
        have hB : ownB l s id t = eligB l id x := by unfold ownB ownB.elM; rw [hf]; simp only [hx, hid, beq_self_eq_true, Bool.true_and]
        rw [hB] at hnx
        cases he : eligB l id x with
        | true =>
          rw [he, if_pos rfl] at hnx
          have e1 : (ownQ l s id (ts.take (i + 1))).map encI = (ownQ l s id (ts.take i)).map encI ++ [[.int .i64 t.1]] := by rw [hnx, List.map_append]; rfl
          (conv => whnf); (repeat' (first | (refine arith_i ⟨by omega, by omega⟩ ?_; conv => whnf) | (refine arith_u ⟨by omega, by omega⟩ ?_; conv => whnf) | (refine arith_8 ⟨by omega, by omega⟩ ?_; conv => whnf) | (refine need_i (by first | omega | (simp only [List.length_cons, List.length_nil]; omega) | (simp only [List.length_append, List.length_cons, List.length_nil, List.length_map, List.length_replicate, List.length_modify]; omega)) ?_; conv => whnf) | ((with_reducible refine branch_tt ?_); conv => whnf) | ((with_reducible refine branch_ff ?_); conv => whnf) | (with_reducible refine branch_not ?_) | ((refine idx_cs ht' ?_); conv => whnf) | ((refine call_e hScr ?_); conv => whnf) | ((refine call_e ((eligible_ok l id x hl.short).mono fun r h => h.trans (bool_eq he)) ?_); conv => whnf) | ((with_reducible refine slc_e ?_); conv => whnf) | ((with_reducible refine callS_a ?_); conv => whnf) | ((with_reducible refine bld_a ?_); conv => whnf) | ((with_reducible refine own_e ?_); conv => whnf) | ((with_reducible refine mkmap_b ?_); conv => whnf) | ((with_reducible refine branch_d (fun hq => ?_) (fun hq => ?_)) <;> (try (exfalso; omega)) <;> (conv => whnf)) | ((with_reducible refine branch_e (fun hq => ?_) (fun hq => ?_)) <;> (try (exfalso; omega)) <;> (conv => whnf)) | ((with_reducible refine branch_n (fun hq => ?_) (fun hq => ?_)) <;> (try (exfalso; omega)) <;> (conv => whnf)) | ((with_reducible refine branch_i (fun hq => ?_) (fun hq => ?_)) <;> (try (exfalso; omega)) <;> (conv => whnf))))
          all_goals first | exact ⟨i + 1, by omega, by rw [e1]; exact (le_mk (by repeat' (first | exact trivial | rfl | apply And.intro)) (by repeat' (first | exact trivial | rfl | apply And.intro)) rfl), by omega⟩
        | false =>
          rw [he, if_neg (by simp), List.append_nil] at hnx
          (conv => whnf); (repeat' (first | (refine arith_i ⟨by omega, by omega⟩ ?_; conv => whnf) | (refine arith_u ⟨by omega, by omega⟩ ?_; conv => whnf) | (refine arith_8 ⟨by omega, by omega⟩ ?_; conv => whnf) | (refine need_i (by first | omega | (simp only [List.length_cons, List.length_nil]; omega) | (simp only [List.length_append, List.length_cons, List.length_nil, List.length_map, List.length_replicate, List.length_modify]; omega)) ?_; conv => whnf) | ((with_reducible refine branch_tt ?_); conv => whnf) | ((with_reducible refine branch_ff ?_); conv => whnf) | (with_reducible refine branch_not ?_) | ((refine idx_cs ht' ?_); conv => whnf) | ((refine call_e hScr ?_); conv => whnf) | ((refine call_e ((eligible_ok l id x hl.short).mono fun r h => h.trans (bool_eq he)) ?_); conv => whnf) | ((with_reducible refine slc_e ?_); conv => whnf) | ((with_reducible refine callS_a ?_); conv => whnf) | ((with_reducible refine bld_a ?_); conv => whnf) | ((with_reducible refine own_e ?_); conv => whnf) | ((with_reducible refine mkmap_b ?_); conv => whnf) | ((with_reducible refine branch_d (fun hq => ?_) (fun hq => ?_)) <;> (try (exfalso; omega)) <;> (conv => whnf)) | ((with_reducible refine branch_e (fun hq => ?_) (fun hq => ?_)) <;> (try (exfalso; omega)) <;> (conv => whnf)) | ((with_reducible refine branch_n (fun hq => ?_) (fun hq => ?_)) <;> (try (exfalso; omega)) <;> (conv => whnf)) | ((with_reducible refine branch_i (fun hq => ?_) (fun hq => ?_)) <;> (try (exfalso; omega)) <;> (conv => whnf))))
          all_goals first | exact ⟨i + 1, by omega, by rw [hnx]; exact (le_mk (by repeat' (first | exact trivial | rfl | apply And.intro)) (by repeat' (first | exact trivial | rfl | apply And.intro)) rfl), by omega⟩
    · have hB : ownB l s id t = false := by unfold ownB; simp [hid]
      rw [hB, if_neg (by simp), List.append_nil] at hnx
      (conv => whnf); (repeat' (first | (refine arith_i ⟨by omega, by omega⟩ ?_; conv => whnf) | (refine arith_u ⟨by omega, by omega⟩ ?_; conv => whnf) | (refine arith_8 ⟨by omega, by omega⟩ ?_; conv => whnf) | (refine need_i (by first | omega | (simp only [List.length_cons, List.length_nil]; omega) | (simp only [List.length_append, List.length_cons, List.length_nil, List.length_map, List.length_replicate, List.length_modify]; omega)) ?_; conv => whnf) | ((with_reducible refine branch_tt ?_); conv => whnf) | ((with_reducible refine branch_ff ?_); conv => whnf) | (with_reducible refine branch_not ?_) | ((refine idx_cs ht' ?_); conv => whnf) | ((with_reducible refine slc_e ?_); conv => whnf) | ((with_reducible refine callS_a ?_); conv => whnf) | ((with_reducible refine bld_a ?_); conv => whnf) | ((with_reducible refine own_e ?_); conv => whnf) | ((with_reducible refine mkmap_b ?_); conv => whnf) | ((with_reducible refine branch_d (fun hq => ?_) (fun hq => ?_)) <;> (try (exfalso; omega)) <;> (conv => whnf)) | ((with_reducible refine branch_e (fun hq => ?_) (fun hq => ?_)) <;> (try (exfalso; omega)) <;> (conv => whnf)) | ((with_reducible refine branch_n (fun hq => ?_) (fun hq => ?_)) <;> (try (exfalso; omega)) <;> (conv => whnf)) | ((with_reducible refine branch_i (fun hq => ?_) (fun hq => ?_)) <;> (try (exfalso; omega)) <;> (conv => whnf))))
      all_goals first | exact ⟨i + 1, by omega, by rw [hnx]; exact (le_mk (by repeat' (first | exact trivial | rfl | apply And.intro)) (by repeat' (first | exact trivial | rfl | apply And.intro)) rfl), by omega⟩
  · rw [List.take_of_length_le hil] at hq1 hq3 ⊢
    have hI := indices_ok s.length k h60 hk64
    (conv => whnf); (repeat' (first | (refine arith_i ⟨by omega, by omega⟩ ?_; conv => whnf) | (refine arith_u ⟨by omega, by omega⟩ ?_; conv => whnf) | (refine arith_8 ⟨by omega, by omega⟩ ?_; conv => whnf) | (refine need_i (by first | omega | (simp only [List.length_cons, List.length_nil]; omega) | (simp only [List.length_append, List.length_cons, List.length_nil, List.length_map, List.length_replicate, List.length_modify]; omega)) ?_; conv => whnf) | ((with_reducible refine branch_tt ?_); conv => whnf) | ((with_reducible refine branch_ff ?_); conv => whnf) | (with_reducible refine branch_not ?_) | ((refine mcall_e [] [(0, 200)] (sortI_ok (ownQ l s id ts) (by omega)) rfl rfl rfl trivial rfl ?_); conv => whnf) | ((refine rcall_e [] [(0, 200)] [] [] (compactI_ok _ (by rw [List.length_mergeSort]; omega)) rfl rfl rfl rfl trivial rfl ?_); conv => whnf) | (((rw [LS]; refine call_e hI ?_)); conv => whnf) | ((with_reducible refine slc_e ?_); conv => whnf) | ((with_reducible refine callS_a ?_); conv => whnf) | ((with_reducible refine bld_a ?_); conv => whnf) | ((with_reducible refine own_e ?_); conv => whnf) | ((with_reducible refine mkmap_b ?_); conv => whnf) | ((with_reducible refine branch_d (fun hq => ?_) (fun hq => ?_)) <;> (try (exfalso; omega)) <;> (conv => whnf)) | ((with_reducible refine branch_e (fun hq => ?_) (fun hq => ?_)) <;> (try (exfalso; omega)) <;> (conv => whnf)) | ((with_reducible refine branch_n (fun hq => ?_) (fun hq => ?_)) <;> (try (exfalso; omega)) <;> (conv => whnf)) | ((with_reducible refine branch_i (fun hq => ?_) (fun hq => ?_)) <;> (try (exfalso; omega)) <;> (conv => whnf))))
    unfold queueF
    have hat : ∀ (t : Nat) (x : Int), (idxsF s.length k)[t]? = some x → 0 ≤ x ∧ x < s.length := fun t x h => idxs_at h
    have LI := idxs_len (n := s.length) (k := k)
    have LC : (Lib.compact ((ownQ l s id ts).mergeSort fun x y => decide (x ≤ y))).length ≤ 1000 := by
      have := compact_le (xs := (ownQ l s id ts).mergeSort fun x y => decide (x ≤ y))
      rw [List.length_mergeSort] at this; omega
    clear hI
    generalize idxsF s.length k = xs at hat LI ⊢
    generalize Lib.compact ((ownQ l s id ts).mergeSort fun x y => decide (x ≤ y)) = os at LC ⊢
    have LX : (xs.map encI).length = xs.length := List.length_map ..
    refine loop_i (fun j : Nat => j ≤ xs.length) (fun j => mkSt [(0, mrksV l), (1, scrsV s), (4, .int .i64 id), (11, .own 200 3 1 (os.map encI)), (16, .own 210 3 1 ((comQ l s id (xs.take j)).map encI)), (64, .own 64 3 1 (xs.map encI)), (65, .int .i64 xs.length), (66, .int .i64 j)] [] false) (fun j => xs.length - j) 0 (Nat.zero_le _) (Le.trans (le_adopt 16 210 3 1 rfl) (le_mk ⟨rfl, rfl, rfl, rfl, rfl, rfl, int_eq (by rw [LX]), rfl, trivial⟩ trivial rfl)) ?_
    intro j hj
    have hc1 := comQ_len (l := l) (s := s) (id := id) (is := xs.take j)
    have hc2 : (xs.take j).length ≤ xs.length := by simp; omega
    have hc3 : ((comQ l s id (xs.take j)).map encI).length = (comQ l s id (xs.take j)).length := List.length_map ..
    rcases Nat.lt_or_ge j xs.length with hjl | hjl
    · obtain ⟨x, hx⟩ : ∃ x, xs[j]? = some x := ⟨_, List.getElem?_eq_getElem hjl⟩
      obtain ⟨hx0, hx1⟩ := hat j x hx
      obtain ⟨y, hy⟩ : ∃ y, s[x.toNat]? = some y := ⟨_, List.getElem?_eq_getElem (by omega)⟩
      have hnx := comQ_next (l := l) (s := s) (id := id) hx
      have hB : ownB.elM l s id x.toNat = eligB l id y := by unfold ownB.elM; rw [hy]
      rw [hB, numF_at hy] at hnx
      cases he : eligB l id y with
      | true =>
        rw [he, if_pos rfl] at hnx
        have e1 : (comQ l s id (xs.take (j + 1))).map encI = (comQ l s id (xs.take j)).map encI ++ [[.int .i64 y.number]] := by rw [hnx, List.map_append]; rfl
        (conv => whnf); (repeat' (first | (refine arith_i ⟨by omega, by omega⟩ ?_; conv => whnf) | (refine arith_u ⟨by omega, by omega⟩ ?_; conv => whnf) | (refine arith_8 ⟨by omega, by omega⟩ ?_; conv => whnf) | (refine need_i (by first | omega | (simp only [List.length_cons, List.length_nil]; omega) | (simp only [List.length_append, List.length_cons, List.length_nil, List.length_map, List.length_replicate, List.length_modify]; omega)) ?_; conv => whnf) | ((with_reducible refine branch_tt ?_); conv => whnf) | ((with_reducible refine branch_ff ?_); conv => whnf) | (with_reducible refine branch_not ?_) | ((refine idx_cs hx ?_); conv => whnf) | ((refine idx_ms hx0 hy ?_); conv => whnf) | ((refine call_e ((eligible_ok l id y hl.short).mono fun r h => h.trans (bool_eq he)) ?_); conv => whnf) | ((with_reducible refine slc_e ?_); conv => whnf) | ((with_reducible refine callS_a ?_); conv => whnf) | ((with_reducible refine bld_a ?_); conv => whnf) | ((with_reducible refine own_e ?_); conv => whnf) | ((with_reducible refine mkmap_b ?_); conv => whnf) | ((with_reducible refine branch_d (fun hq => ?_) (fun hq => ?_)) <;> (try (exfalso; omega)) <;> (conv => whnf)) | ((with_reducible refine branch_e (fun hq => ?_) (fun hq => ?_)) <;> (try (exfalso; omega)) <;> (conv => whnf)) | ((with_reducible refine branch_n (fun hq => ?_) (fun hq => ?_)) <;> (try (exfalso; omega)) <;> (conv => whnf)) | ((with_reducible refine branch_i (fun hq => ?_) (fun hq => ?_)) <;> (try (exfalso; omega)) <;> (conv => whnf))))
        all_goals exact ⟨j + 1, by omega, by rw [e1]; exact (le_mk (by repeat' (first | exact trivial | rfl | apply And.intro)) (by repeat' (first | exact trivial | rfl | apply And.intro)) rfl), by omega⟩
      | false =>
        rw [he, if_neg (by simp), List.append_nil] at hnx
        (conv => whnf); (repeat' (first | (refine arith_i ⟨by omega, by omega⟩ ?_; conv => whnf) | (refine arith_u ⟨by omega, by omega⟩ ?_; conv => whnf) | (refine arith_8 ⟨by omega, by omega⟩ ?_; conv => whnf) | (refine need_i (by first | omega | (simp only [List.length_cons, List.length_nil]; omega) | (simp only [List.length_append, List.length_cons, List.length_nil, List.length_map, List.length_replicate, List.length_modify]; omega)) ?_; conv => whnf) | ((with_reducible refine branch_tt ?_); conv => whnf) | ((with_reducible refine branch_ff ?_); conv => whnf) | (with_reducible refine branch_not ?_) | ((refine idx_cs hx ?_); conv => whnf) | ((refine idx_ms hx0 hy ?_); conv => whnf) | ((refine call_e ((eligible_ok l id y hl.short).mono fun r h => h.trans (bool_eq he)) ?_); conv => whnf) | ((with_reducible refine slc_e ?_); conv => whnf) | ((with_reducible refine callS_a ?_); conv => whnf) | ((with_reducible refine bld_a ?_); conv => whnf) | ((with_reducible refine own_e ?_); conv => whnf) | ((with_reducible refine mkmap_b ?_); conv => whnf) | ((with_reducible refine branch_d (fun hq => ?_) (fun hq => ?_)) <;> (try (exfalso; omega)) <;> (conv => whnf)) | ((with_reducible refine branch_e (fun hq => ?_) (fun hq => ?_)) <;> (try (exfalso; omega)) <;> (conv => whnf)) | ((with_reducible refine branch_n (fun hq => ?_) (fun hq => ?_)) <;> (try (exfalso; omega)) <;> (conv => whnf)) | ((with_reducible refine branch_i (fun hq => ?_) (fun hq => ?_)) <;> (try (exfalso; omega)) <;> (conv => whnf))))
        all_goals exact ⟨j + 1, by omega, by rw [hnx]; exact (le_mk (by repeat' (first | exact trivial | rfl | apply And.intro)) (by repeat' (first | exact trivial | rfl | apply And.intro)) rfl), by omega⟩
    · rw [List.take_of_length_le hjl] at hc1 hc3 ⊢
      (conv => whnf); (repeat' (first | (refine arith_i ⟨by omega, by omega⟩ ?_; conv => whnf) | (refine arith_u ⟨by omega, by omega⟩ ?_; conv => whnf) | (refine arith_8 ⟨by omega, by omega⟩ ?_; conv => whnf) | (refine need_i (by first | omega | (simp only [List.length_cons, List.length_nil]; omega) | (simp only [List.length_append, List.length_cons, List.length_nil, List.length_map, List.length_replicate, List.length_modify]; omega)) ?_; conv => whnf) | ((with_reducible refine branch_tt ?_); conv => whnf) | ((with_reducible refine branch_ff ?_); conv => whnf) | (with_reducible refine branch_not ?_) | ((refine call_e (merged_ok os (comQ l s id xs) LC (by omega)) ?_); conv => whnf) | ((with_reducible refine slc_e ?_); conv => whnf) | ((with_reducible refine callS_a ?_); conv => whnf) | ((with_reducible refine bld_a ?_); conv => whnf) | ((with_reducible refine own_e ?_); conv => whnf) | ((with_reducible refine mkmap_b ?_); conv => whnf) | ((with_reducible refine branch_d (fun hq => ?_) (fun hq => ?_)) <;> (try (exfalso; omega)) <;> (conv => whnf)) | ((with_reducible refine branch_e (fun hq => ?_) (fun hq => ?_)) <;> (try (exfalso; omega)) <;> (conv => whnf)) | ((with_reducible refine branch_n (fun hq => ?_) (fun hq => ?_)) <;> (try (exfalso; omega)) <;> (conv => whnf)) | ((with_reducible refine branch_i (fun hq => ?_) (fun hq => ?_)) <;> (try (exfalso; omega)) <;> (conv => whnf))))
      exact ret_o rfl
end Go.Proofs.Ytpmoflggmdfmnaa
end

/- Layer 26: what a marker sees: of the program. -/
section
namespace Go.Proofs.Ytpmoflggmdfmnaa
set_option linter.unusedVariables false
set_option linter.unusedSimpArgs false
set_option linter.unnecessarySimpa false
set_option linter.unusedSectionVars false
set_option maxRecDepth 10000
open Go.RowKit
theorem sQueue_ok (l : List Mrk) (s : List Scr) (ts : List (Int × Int)) (k id : Int) (ht : ts.length ≤ 1000) (hl : MksOk l) (hs : ScsOk s) (hk64 : k ≤ 9223372036854775807) : Good Try.prog TT false 35 [mrksV l, scrsV s, tasksV ts, .int .i64 k, .int .i64 id] (· = .own 0 3 1 ((queueF l s ts k id).map encI)) := by
  refine good_of mixed tabOk Try.func35 rfl rfl Try.ntmps35 Try.results35 rfl rfl ?_
  (conv => whnf); (repeat' (first | (refine arith_i ⟨by omega, by omega⟩ ?_; conv => whnf) | (refine arith_u ⟨by omega, by omega⟩ ?_; conv => whnf) | (refine arith_8 ⟨by omega, by omega⟩ ?_; conv => whnf) | (refine need_i (by first | omega | (simp only [List.length_cons, List.length_nil]; omega) | (simp only [List.length_append, List.length_cons, List.length_nil, List.length_map, List.length_replicate, List.length_modify]; omega)) ?_; conv => whnf) | ((with_reducible refine branch_tt ?_); conv => whnf) | ((with_reducible refine branch_ff ?_); conv => whnf) | (with_reducible refine branch_not ?_) | ((refine call_e (queue_ok l s ts k id ht hl hs hk64) ?_); conv => whnf) | ((with_reducible refine slc_e ?_); conv => whnf) | ((with_reducible refine callS_a ?_); conv => whnf) | ((with_reducible refine bld_a ?_); conv => whnf) | ((with_reducible refine own_e ?_); conv => whnf) | ((with_reducible refine mkmap_b ?_); conv => whnf) | ((with_reducible refine branch_d (fun hq => ?_) (fun hq => ?_)) <;> (try (exfalso; omega)) <;> (conv => whnf)) | ((with_reducible refine branch_e (fun hq => ?_) (fun hq => ?_)) <;> (try (exfalso; omega)) <;> (conv => whnf)) | ((with_reducible refine branch_n (fun hq => ?_) (fun hq => ?_)) <;> (try (exfalso; omega)) <;> (conv => whnf)) | ((with_reducible refine branch_i (fun hq => ?_) (fun hq => ?_)) <;> (try (exfalso; omega)) <;> (conv => whnf))))
  exact ret_o rfl
def scrZ : Scr := ⟨0, 0, 0, 0, 0, [], []⟩
def scrN (s : List Scr) (n : Int) : Scr := match findS s n with | some p => (s[p]?).getD scrZ | none => scrZ
def encV (x : Scr) (j : Nat) : List AV := [.int .i64 j, .int .i64 x.paper, .int .i64 x.variant, ints x.pages]
def viewsP (s : List Scr) (ns : List Int) (k : Nat) : List (List AV) := (List.range k).map fun j => encV (scrN s (nth ns j)) j
theorem scrN_pages {s : List Scr} {n : Int} (hs : ScsOk s) : (scrN s n).pages.length ≤ 1000000 := by
  unfold scrN
  split
  · next p hp =>
    cases hx : s[p]? with
    | none => simp [scrZ]
    | some x => have := (hs.all p x hx).2; simp only [Option.getD_some]; omega
  · simp [scrZ]
theorem queue_len {l : List Mrk} {s : List Scr} {ts : List (Int × Int)} {k id : Int} (ht : ts.length ≤ 1000) (hs : ScsOk s) : (queueF l s ts k id).length ≤ 2000 := by
  have h60 := hs.len
  have h1 := merge_len (Lib.compact ((ownQ l s id ts).mergeSort fun x y => decide (x ≤ y))) (comQ l s id (idxsF s.length k))
  have h2 := compact_le (xs := (ownQ l s id ts).mergeSort fun x y => decide (x ≤ y))
  rw [List.length_mergeSort] at h2
  have h3 := ownQ_len (l := l) (s := s) (id := id) (ts := ts)
  have h4 := comQ_len (l := l) (s := s) (id := id) (is := idxsF s.length k)
  have h5 := idxs_len (n := s.length) (k := k)
  unfold queueF; omega
def viewsL (s : List Scr) (ns : List Int) : List (List AV) := (List.range ns.length).map fun j => encV (scrN s (nth ns j)) j
theorem sFindN_ok (s : List Scr) (n : Int) (hs : ScsOk s) : Good Try.prog TT false 72 [scrsV s, .int .i64 n] (fun r => ∃ b : Bool, r = .tup [.agg (encR (scrN s n)), .bool b]) := (sFind_ok s n hs).mono fun r h => by
  unfold ScriptR at h
  cases hf : findS s n with
  | none => rw [hf] at h; exact ⟨false, by unfold scrN; rw [hf]; exact h⟩
  | some p =>
    rw [hf] at h
    obtain ⟨x, hx, h⟩ := h
    exact ⟨true, by unfold scrN; rw [hf]; simp only [hx, Option.getD_some]; exact h⟩
set_option maxHeartbeats 4000000 in
theorem views_ok (l : List Mrk) (s : List Scr) (ts : List (Int × Int)) (k id : Int) (ht : ts.length ≤ 1000) (hl : MksOk l) (hs : ScsOk s) (hk64 : k ≤ 9223372036854775807) : Good Try.prog TT false 33 [mrksV l, scrsV s, tasksV ts, .int .i64 k, .int .i64 id] (· = .own 0 74 4 (viewsL s (queueF l s ts k id))) := by
  have LS : (s.map encR).length = s.length := List.length_map ..
  have hQ := queue_ok l s ts k id ht hl hs hk64
  have LN : (queueF l s ts k id).length ≤ 2000 := queue_len ht hs
  generalize queueF l s ts k id = ns at hQ LN ⊢
  refine good_of mixed tabOk Try.func33 rfl rfl Try.ntmps33 Try.results33 rfl rfl ?_
  (conv => whnf); (repeat' (first | (refine arith_i ⟨by omega, by omega⟩ ?_; conv => whnf) | (refine arith_u ⟨by omega, by omega⟩ ?_; conv => whnf) | (refine arith_8 ⟨by omega, by omega⟩ ?_; conv => whnf) | (refine need_i (by first | omega | (simp only [List.length_cons, List.length_nil]; omega) | (simp only [List.length_append, List.length_cons, List.length_nil, List.length_map, List.length_replicate, List.length_modify]; omega)) ?_; conv => whnf) | ((with_reducible refine branch_tt ?_); conv => whnf) | ((with_reducible refine branch_ff ?_); conv => whnf) | (with_reducible refine branch_not ?_) | ((refine call_e hQ ?_); conv => whnf) | ((with_reducible refine slc_e ?_); conv => whnf) | ((with_reducible refine callS_a ?_); conv => whnf) | ((with_reducible refine bld_a ?_); conv => whnf) | ((with_reducible refine own_e ?_); conv => whnf) | ((with_reducible refine mkmap_b ?_); conv => whnf) | ((with_reducible refine branch_d (fun hq => ?_) (fun hq => ?_)) <;> (try (exfalso; omega)) <;> (conv => whnf)) | ((with_reducible refine branch_e (fun hq => ?_) (fun hq => ?_)) <;> (try (exfalso; omega)) <;> (conv => whnf)) | ((with_reducible refine branch_n (fun hq => ?_) (fun hq => ?_)) <;> (try (exfalso; omega)) <;> (conv => whnf)) | ((with_reducible refine branch_i (fun hq => ?_) (fun hq => ?_)) <;> (try (exfalso; omega)) <;> (conv => whnf))))
  have L : (ns.map encI).length = ns.length := List.length_map ..
  refine loop_i (fun j : Nat => j ≤ ns.length) (fun j => mkSt [(1, scrsV s), (11, .own 200 74 4 (viewsP s ns j)), (21, .own 21 3 1 (ns.map encI)), (22, .int .i64 ns.length), (23, .int .i64 j)] [] false) (fun j => ns.length - j) 0 (Nat.zero_le _) (Le.trans (le_adopt 11 200 74 4 rfl) (le_mk ⟨rfl, rfl, rfl, int_eq (by rw [L]), rfl, trivial⟩ trivial rfl)) ?_
  intro j hj
  have LV : (viewsP s ns j).length = j := by simp [viewsP]
  rcases Nat.lt_or_ge j ns.length with hjl | hjl
  · obtain ⟨n, hn⟩ : ∃ n, ns[j]? = some n := ⟨_, List.getElem?_eq_getElem hjl⟩
    have hpg := scrN_pages (n := n) hs
    have e1 : viewsP s ns (j + 1) = viewsP s ns j ++ [encV (scrN s n) j] := by
      unfold viewsP; rw [List.range_succ, List.map_append, List.map_singleton, nth_eq hn]
    (conv => whnf); (repeat' (first | (refine arith_i ⟨by omega, by omega⟩ ?_; conv => whnf) | (refine arith_u ⟨by omega, by omega⟩ ?_; conv => whnf) | (refine arith_8 ⟨by omega, by omega⟩ ?_; conv => whnf) | (refine need_i (by first | omega | (simp only [List.length_cons, List.length_nil]; omega) | (simp only [List.length_append, List.length_cons, List.length_nil, List.length_map, List.length_replicate, List.length_modify]; omega)) ?_; conv => whnf) | ((with_reducible refine branch_tt ?_); conv => whnf) | ((with_reducible refine branch_ff ?_); conv => whnf) | (with_reducible refine branch_not ?_) | ((refine idx_cs hn ?_); conv => whnf) | (((refine call_i (sFindN_ok s n hs) fun r h => ?_; obtain ⟨b, rfl⟩ := h)); conv => whnf) | ((refine call_e (see_ok (scrN s n) j hpg) ?_); conv => whnf) | ((with_reducible refine slc_e ?_); conv => whnf) | ((with_reducible refine callS_a ?_); conv => whnf) | ((with_reducible refine bld_a ?_); conv => whnf) | ((with_reducible refine own_e ?_); conv => whnf) | ((with_reducible refine mkmap_b ?_); conv => whnf) | ((with_reducible refine branch_d (fun hq => ?_) (fun hq => ?_)) <;> (try (exfalso; omega)) <;> (conv => whnf)) | ((with_reducible refine branch_e (fun hq => ?_) (fun hq => ?_)) <;> (try (exfalso; omega)) <;> (conv => whnf)) | ((with_reducible refine branch_n (fun hq => ?_) (fun hq => ?_)) <;> (try (exfalso; omega)) <;> (conv => whnf)) | ((with_reducible refine branch_i (fun hq => ?_) (fun hq => ?_)) <;> (try (exfalso; omega)) <;> (conv => whnf))))
    all_goals first | exact ⟨j + 1, by omega, by rw [e1]; exact (le_mk (by repeat' (first | exact trivial | rfl | apply And.intro)) (by repeat' (first | exact trivial | rfl | apply And.intro)) rfl), by omega⟩
  · (conv => whnf); (repeat' (first | (refine arith_i ⟨by omega, by omega⟩ ?_; conv => whnf) | (refine arith_u ⟨by omega, by omega⟩ ?_; conv => whnf) | (refine arith_8 ⟨by omega, by omega⟩ ?_; conv => whnf) | (refine need_i (by first | omega | (simp only [List.length_cons, List.length_nil]; omega) | (simp only [List.length_append, List.length_cons, List.length_nil, List.length_map, List.length_replicate, List.length_modify]; omega)) ?_; conv => whnf) | ((with_reducible refine branch_tt ?_); conv => whnf) | ((with_reducible refine branch_ff ?_); conv => whnf) | (with_reducible refine branch_not ?_) | ((with_reducible refine slc_e ?_); conv => whnf) | ((with_reducible refine callS_a ?_); conv => whnf) | ((with_reducible refine bld_a ?_); conv => whnf) | ((with_reducible refine own_e ?_); conv => whnf) | ((with_reducible refine mkmap_b ?_); conv => whnf) | ((with_reducible refine branch_d (fun hq => ?_) (fun hq => ?_)) <;> (try (exfalso; omega)) <;> (conv => whnf)) | ((with_reducible refine branch_e (fun hq => ?_) (fun hq => ?_)) <;> (try (exfalso; omega)) <;> (conv => whnf)) | ((with_reducible refine branch_n (fun hq => ?_) (fun hq => ?_)) <;> (try (exfalso; omega)) <;> (conv => whnf)) | ((with_reducible refine branch_i (fun hq => ?_) (fun hq => ?_)) <;> (try (exfalso; omega)) <;> (conv => whnf))))
    obtain rfl : j = ns.length := by omega
    exact ret_o rfl
end Go.Proofs.Ytpmoflggmdfmnaa
end

/- Layer 26: of the reference: has, See. -/
section
namespace Go.Proofs.Ytpmoflggmdfmnaa
set_option linter.unusedVariables false
set_option linter.unusedSimpArgs false
set_option linter.unnecessarySimpa false
set_option linter.unusedSectionVars false
set_option maxRecDepth 10000
open Go.RowKit
end Go.Proofs.Ytpmoflggmdfmnaa
end

/- Layer 26: the queue of the reference. -/
section
namespace Go.Proofs.Ytpmoflggmdfmnaa
set_option linter.unusedVariables false
set_option linter.unusedSimpArgs false
set_option linter.unnecessarySimpa false
set_option linter.unusedSectionVars false
set_option maxRecDepth 10000
open Go.RowKit
def mineB (l : List Mrk) (s : List Scr) (ts : List (Int × Int)) (k id : Int) (x : Scr) : Bool := (hasP (commF s k) x.number || ts.any fun t => t.1 == x.number && t.2 == id) && eligB l id x
def rqF (l : List Mrk) (s : List Scr) (ts : List (Int × Int)) (k id : Int) (q : List Scr) : List Int := (q.filter (mineB l s ts k id)).map (·.number)
theorem commF_len {s : List Scr} {k : Int} : (commF s k).length ≤ s.length := by unfold commF; rw [List.length_map]; exact idxs_len
end Go.Proofs.Ytpmoflggmdfmnaa
end

/- Layer 26, plainly: merged lists have the members of both, in order. -/
section
namespace Go.Proofs.Ytpmoflggmdfmnaa
set_option linter.unusedVariables false
set_option linter.unusedSimpArgs false
theorem merge_mem {n : Int} : ∀ {us vs : List Int}, n ∈ mergeF us vs ↔ n ∈ us ∨ n ∈ vs
  | [], vs => by simp [mergeF]
  | a :: us, [] => by simp [mergeF]
  | a :: us, b :: vs => by
    rw [mergeF]
    split
    · rw [List.mem_cons, merge_mem (us := us) (vs := b :: vs)]; simp only [List.mem_cons]; grind
    · split
      · rw [List.mem_cons, merge_mem (us := a :: us) (vs := vs)]; simp only [List.mem_cons]; grind
      · have : a = b := by omega
        subst this
        rw [List.mem_cons, merge_mem (us := us) (vs := vs)]; simp only [List.mem_cons]; grind
termination_by us vs => us.length + vs.length
theorem merge_asc : ∀ {us vs : List Int}, us.Pairwise (· < ·) → vs.Pairwise (· < ·) → (mergeF us vs).Pairwise (· < ·)
  | [], vs, _, h => by rw [merge_nil2]; exact h
  | a :: us, [], h, _ => by rw [merge_nil]; exact h
  | a :: us, b :: vs, hu, hv => by
    have hu' := List.pairwise_cons.1 hu
    have hv' := List.pairwise_cons.1 hv
    rw [mergeF]
    split
    · next g =>
      refine List.pairwise_cons.2 ⟨fun c hc => ?_, merge_asc hu'.2 hv⟩
      rcases merge_mem.1 hc with h | h
      · exact hu'.1 c h
      · rcases List.mem_cons.1 h with rfl | h
        · exact g
        · have := hv'.1 c h; omega
    · split
      · next g1 g =>
        refine List.pairwise_cons.2 ⟨fun c hc => ?_, merge_asc hu hv'.2⟩
        rcases merge_mem.1 hc with h | h
        · rcases List.mem_cons.1 h with rfl | h
          · exact g
          · have := hu'.1 c h; omega
        · exact hv'.1 c h
      · next g1 g2 =>
        refine List.pairwise_cons.2 ⟨fun c hc => ?_, merge_asc hu'.2 hv'.2⟩
        rcases merge_mem.1 hc with h | h
        · exact hu'.1 c h
        · have := hv'.1 c h; omega
termination_by us vs => us.length + vs.length
theorem asc_eq : ∀ {us vs : List Int}, us.Pairwise (· < ·) → vs.Pairwise (· < ·) → (∀ n, n ∈ us ↔ n ∈ vs) → us = vs
  | [], [], _, _, _ => rfl
  | [], b :: vs, _, _, h => absurd ((h b).2 (List.mem_cons_self ..)) (by simp)
  | a :: us, [], _, _, h => absurd ((h a).1 (List.mem_cons_self ..)) (by simp)
  | a :: us, b :: vs, hu, hv, h => by
    have hu' := List.pairwise_cons.1 hu
    have hv' := List.pairwise_cons.1 hv
    have e : a = b := by
      rcases List.mem_cons.1 ((h a).1 (List.mem_cons_self ..)) with h1 | h1
      · exact h1
      · rcases List.mem_cons.1 ((h b).2 (List.mem_cons_self ..)) with h2 | h2
        · exact h2.symm
        · have := hv'.1 a h1; have := hu'.1 b h2; omega
    subst e
    rw [asc_eq hu'.2 hv'.2 fun n => ?_]
    constructor
    · intro hn
      rcases List.mem_cons.1 ((h n).1 (List.mem_cons_of_mem _ hn)) with rfl | h1
      · have := hu'.1 n hn; omega
      · exact h1
    · intro hn
      rcases List.mem_cons.1 ((h n).2 (List.mem_cons_of_mem _ hn)) with rfl | h1
      · have := hv'.1 n hn; omega
      · exact h1
end Go.Proofs.Ytpmoflggmdfmnaa
end

/- Layer 25, plainly: what an allocation is like. -/
section
namespace Go.Proofs.Ytpmoflggmdfmnaa
set_option linter.unusedVariables false
set_option linter.unusedSimpArgs false
set_option linter.unnecessarySimpa false
set_option linter.unusedSectionVars false
set_option maxRecDepth 10000
section
variable {l : List Mrk} {s : List Scr} {A : Nat → Nat → Bool}
theorem numF_lt (hA : AscS s) {i j : Nat} (h : i < j) (hj : j < s.length) : numF s i < numF s j := by
  obtain ⟨x, hx⟩ : ∃ x, s[i]? = some x := ⟨_, List.getElem?_eq_getElem (by omega)⟩
  obtain ⟨y, hy⟩ : ∃ y, s[j]? = some y := ⟨_, List.getElem?_eq_getElem hj⟩
  rw [numF_at hx, numF_at hy]; exact asc_lt hA hx hy h
theorem rowT_fst {i : Nat} : ∀ {k : Nat}, ∀ t ∈ rowT l s A i k, t.1 = numF s i ∧ ∃ m, m < k ∧ t.2 = idF l m ∧ A i m = true
  | 0, t, h => by simp [rowT] at h
  | k + 1, t, h => by
    rw [rowT_next, List.mem_append] at h
    rcases h with h | h
    · obtain ⟨h1, m, h2, h3⟩ := rowT_fst t h
      exact ⟨h1, m, by omega, h3⟩
    · split at h
      · next g =>
        simp only [List.mem_singleton] at h
        subst h; exact ⟨rfl, k, by omega, rfl, g⟩
      · simp at h
theorem tasksT_mem : ∀ {n : Nat}, ∀ t ∈ tasksT l s A n, ∃ i m, i < n ∧ m < l.length ∧ t = (numF s i, idF l m) ∧ A i m = true
  | 0, t, h => by simp [tasksT] at h
  | n + 1, t, h => by
    rw [tasksT_next, List.mem_append] at h
    rcases h with h | h
    · obtain ⟨i, m, h1, h2⟩ := tasksT_mem t h
      exact ⟨i, m, by omega, h2⟩
    · obtain ⟨h1, m, h2, h3, h4⟩ := rowT_fst t h
      exact ⟨n, m, by omega, h2, Prod.ext h1 h3, h4⟩
theorem findS_num (hA : AscS s) {i : Nat} (hi : i < s.length) : findS s (numF s i) = some i := by
  obtain ⟨x, hx⟩ : ∃ x, s[i]? = some x := ⟨_, List.getElem?_eq_getElem hi⟩
  exact idx_some (fun k y hk hy => by have := asc_lt hA hy hx hk; rw [numF_at hx]; omega) hx (numF_at hx).symm
end
end Go.Proofs.Ytpmoflggmdfmnaa
end
