/- Several texts in one: GL26b, GL26c, GL26l, GL26d, SrtM, Shl. -/
import Derived.Test.YthgnomniboindaaD4
import Derived.Test.YthgnomniboindaaD1
import Derived.Shelf.Sort.Plain
import Derived.Shelf.Slices.In.SortNone
import Derived.Shelf.Slices.Reverse
import Derived.Sort.OwnSortedInts
import Derived.Shelf.Slices.CompactI
/- Layer 26: a script by its number, what a marker sees, merged lists: of the program. -/
section
namespace Go.Proofs.Ythgnomniboindaa
set_option linter.unusedVariables false
set_option linter.unusedSimpArgs false
set_option linter.unnecessarySimpa false
set_option linter.unusedSectionVars false
set_option maxRecDepth 10000
open Go.RowKit
def plGL26b_0 : Plan := (.take 0 (.take 1 (.take 2 (.take 3 (.take 4 (.take 5 (.take 6 (.alt 7 (.take 8 (.alt 9 .done .stop)) .stop))))))))
def plGL26b_1 : Plan := (.take 0 (.take 1 (.take 3 (.take 5 (.alt 2 (.alt 4 (.alt 6 (.alt 7 (.take 8 (.alt 9 .done .stop)) .stop) .stop) (.alt 6 (.alt 4 (.alt 7 (.take 8 (.alt 9 .done .stop)) .stop) (.alt 7 (.alt 4 (.take 8 (.alt 9 .done .stop)) .stop) .stop)) .stop)) (.alt 4 (.alt 2 (.alt 6 (.alt 7 (.take 8 (.alt 9 .done .stop)) .stop) .stop) (.alt 6 (.alt 2 (.alt 7 (.take 8 (.alt 9 .done .stop)) .stop) (.alt 7 (.alt 2 (.take 8 (.alt 9 .done .stop)) .stop) .stop)) .stop)) (.alt 6 (.alt 2 (.alt 4 (.alt 7 (.take 8 (.alt 9 .done .stop)) .stop) (.alt 7 (.alt 4 (.take 8 (.alt 9 .done .stop)) .stop) .stop)) (.alt 4 (.alt 2 (.alt 7 (.take 8 (.alt 9 .done .stop)) .stop) (.alt 7 (.alt 2 (.take 8 (.alt 9 .done .stop)) .stop) .stop)) (.alt 7 (.alt 2 (.alt 4 (.take 8 (.alt 9 .done .stop)) .stop) (.alt 4 (.alt 2 (.take 8 (.alt 9 .done .stop)) .stop) .stop)) .stop))) .stop)))))))
def plGL26b_3 : Plan := (.take 0 (.take 1 (.take 2 (.take 3 (.take 4 (.take 5 (.take 6 (.take 7 (.take 8 (.take 9 (.take 10 (.take 11 (.take 12 (.take 13 (.take 14 (.take 15 (.take 16 (.take 17 (.take 18 (.take 19 (.take 20 (.take 21 .done))))))))))))))))))))))
def plGL26b_4 : Plan := (.take 0 (.take 1 (.take 2 (.take 3 (.take 4 (.take 5 (.take 6 (.take 7 (.take 8 (.take 9 (.take 10 (.take 11 (.take 12 (.take 14 (.take 15 (.take 16 (.alt 13 (.alt 17 (.take 18 (.take 19 (.take 20 (.take 21 .done)))) .stop) (.alt 17 (.alt 13 (.take 18 (.take 19 (.take 20 (.take 21 .done)))) .stop) .stop))))))))))))))))))
def plGL26b_5 : Plan := (.take 0 (.take 1 (.take 2 (.take 3 (.take 4 (.take 5 (.take 6 (.take 7 (.take 8 (.take 9 (.take 10 (.take 11 (.take 12 (.take 13 (.take 14 (.take 15 .done))))))))))))))))
def plGL26b_6 : Plan := (.take 0 (.take 1 (.take 2 (.take 3 (.take 4 (.take 5 (.take 6 (.take 7 (.take 9 (.take 10 (.take 11 (.alt 8 (.alt 12 (.take 13 (.take 14 (.take 15 .done))) .stop) (.alt 12 (.alt 8 (.take 13 (.take 14 (.take 15 .done))) .stop) .stop)))))))))))))
theorem find1_ok (x : Scr) (n : Int) : Good Try.prog TT false 58 [.agg (encR x), .int .i64 n] (· = .int .i64 (cmpI x.number n)) := by
  refine good_of mixed tabOk Try.func58 rfl rfl Try.ntmps58 Try.results58 rfl rfl ?_
  (conv => whnf); (repeat' (first | (refine arith_i ⟨by omega, by omega⟩ ?_; conv => whnf) | (refine arith_u ⟨by omega, by omega⟩ ?_; conv => whnf) | (refine arith_8 ⟨by omega, by omega⟩ ?_; conv => whnf) | (refine need_i (by first | omega | (simp only [List.length_cons, List.length_nil]; omega) | (simp only [List.length_append, List.length_cons, List.length_nil, List.length_map, List.length_replicate, List.length_modify]; omega)) ?_; conv => whnf) | ((with_reducible first | refine branch_tt ?_ | refine branch_ff ?_); conv => whnf) | (with_reducible refine branch_not ?_) | ((refine call_e (compare_ok x.number n) ?_); conv => whnf) | ((with_reducible first | refine slc_e ?_ | refine callS_a ?_ | refine bld_a ?_ | refine own_e ?_ | refine mkmap_b ?_ | refine lnk_a ?_); conv => whnf) | ((with_reducible first | refine branch_d (fun hq => ?_) (fun hq => ?_) | refine branch_e (fun hq => ?_) (fun hq => ?_) | refine branch_n (fun hq => ?_) (fun hq => ?_) | refine branch_i (fun hq => ?_) (fun hq => ?_)) <;> (try (exfalso; omega)) <;> (conv => whnf))))
  all_goals first | exact ret_p rfl rfl
set_option maxHeartbeats 4000000 in
theorem bsearch26_ok (s : List Scr) (n : Int) (hs : ScsOk s) : Good Try.prog TT false 57 [scrsV s, .int .i64 n, .fn 58 []] (IdxR s n) := by
  have LS : (s.map encR).length = s.length := List.length_map ..
  have h60 := hs.len
  refine good_of mixed tabOk Try.func57 rfl rfl Try.ntmps57 Try.results57 rfl rfl ?_
  (conv => whnf); (repeat' (first | (refine arith_i ⟨by omega, by omega⟩ ?_; conv => whnf) | (refine arith_u ⟨by omega, by omega⟩ ?_; conv => whnf) | (refine arith_8 ⟨by omega, by omega⟩ ?_; conv => whnf) | (refine need_i (by first | omega | (simp only [List.length_cons, List.length_nil]; omega) | (simp only [List.length_append, List.length_cons, List.length_nil, List.length_map, List.length_replicate, List.length_modify]; omega)) ?_; conv => whnf) | ((with_reducible first | refine branch_tt ?_ | refine branch_ff ?_); conv => whnf) | (with_reducible refine branch_not ?_) | ((with_reducible first | refine slc_e ?_ | refine callS_a ?_ | refine bld_a ?_ | refine own_e ?_ | refine mkmap_b ?_ | refine lnk_a ?_); conv => whnf) | ((with_reducible first | refine branch_d (fun hq => ?_) (fun hq => ?_) | refine branch_e (fun hq => ?_) (fun hq => ?_) | refine branch_n (fun hq => ?_) (fun hq => ?_) | refine branch_i (fun hq => ?_) (fun hq => ?_)) <;> (try (exfalso; omega)) <;> (conv => whnf))))
  refine loop_i2 (fun i j : Nat => i ≤ j ∧ j ≤ s.length ∧ (∀ (k : Nat) (x : Scr), k < i → s[k]? = some x → x.number < n) ∧ ∀ (k : Nat) (x : Scr), j ≤ k → s[k]? = some x → n ≤ x.number) (fun i j => mkSt [(0, scrsV s), (1, .int .i64 n), (2, .fn 58 []), (8, .int .i64 s.length), (9, .int .i64 i), (10, .int .i64 j)] [] false) (fun i j => j - i) 0 s.length ⟨Nat.zero_le _, Nat.le_refl _, nofun, fun k x hk hx => absurd (List.getElem?_eq_some_iff.1 hx).1 (by omega)⟩ (le_mk ⟨rfl, rfl, rfl, int_eq (by rw [LS]), rfl, int_eq (by rw [LS]), trivial⟩ trivial rfl) ?_
  rintro i j ⟨hij, hj, hlo, hhi⟩
  rcases Nat.lt_or_ge i j with hil | hil
  · have hsh := half_eq i j
    obtain ⟨x, hx⟩ : ∃ x, s[(i + j) / 2]? = some x := ⟨_, List.getElem?_eq_getElem (by omega)⟩
    (conv => whnf); (repeat' (first | (refine arith_i ⟨by omega, by omega⟩ ?_; conv => whnf) | (refine arith_u ⟨by omega, by omega⟩ ?_; conv => whnf) | (refine arith_8 ⟨by omega, by omega⟩ ?_; conv => whnf) | (refine need_i (by first | omega | (simp only [List.length_cons, List.length_nil]; omega) | (simp only [List.length_append, List.length_cons, List.length_nil, List.length_map, List.length_replicate, List.length_modify]; omega)) ?_; conv => whnf) | ((with_reducible first | refine branch_tt ?_ | refine branch_ff ?_); conv => whnf) | (with_reducible refine branch_not ?_) | (((rw [hsh]; refine arith_i ⟨by omega, by omega⟩ ?_)); conv => whnf) | (((rw [hsh]; refine idx_cs hx ?_)); conv => whnf) | ((refine call_e (find1_ok x n) ?_); conv => whnf) | ((with_reducible first | refine slc_e ?_ | refine callS_a ?_ | refine bld_a ?_ | refine own_e ?_ | refine mkmap_b ?_ | refine lnk_a ?_); conv => whnf) | ((with_reducible first | refine branch_d (fun hq => ?_) (fun hq => ?_) | refine branch_e (fun hq => ?_) (fun hq => ?_) | refine branch_n (fun hq => ?_) (fun hq => ?_) | refine branch_i (fun hq => ?_) (fun hq => ?_)) <;> (try (exfalso; omega)) <;> (conv => whnf))))
    · refine ⟨(i + j) / 2 + 1, j, ⟨by omega, hj, fun k y hk hy => ?_, hhi⟩, le_mk ⟨rfl, rfl, rfl, rfl, int_eq (by omega), rfl, trivial⟩ trivial rfl, by omega⟩
      have hxn := cmp_lt.1 hq
      rcases Nat.lt_or_ge k ((i + j) / 2) with hk2 | hk2
      · have := asc_lt hs.asc hy hx hk2; omega
      · obtain rfl : k = (i + j) / 2 := by omega
        rw [hx] at hy; injection hy with hy; rw [← hy]; exact hxn
    · refine ⟨i, (i + j) / 2, ⟨by omega, by omega, hlo, fun k y hk hy => ?_⟩, le_mk ⟨rfl, rfl, rfl, rfl, rfl, rfl, trivial⟩ trivial rfl, by omega⟩
      have hxn : ¬ x.number < n := fun h => hq (cmp_lt.2 h)
      rcases Nat.lt_or_ge ((i + j) / 2) k with hk2 | hk2
      · have := asc_lt hs.asc hx hy hk2; omega
      · obtain rfl : k = (i + j) / 2 := by omega
        rw [hx] at hy; injection hy with hy; rw [← hy]; omega
  · obtain rfl : i = j := by omega
    rcases Nat.lt_or_ge i s.length with hl | hl
    · obtain ⟨x, hx⟩ : ∃ x, s[i]? = some x := ⟨_, List.getElem?_eq_getElem hl⟩
      (conv => whnf); (repeat' (first | (refine arith_i ⟨by omega, by omega⟩ ?_; conv => whnf) | (refine arith_u ⟨by omega, by omega⟩ ?_; conv => whnf) | (refine arith_8 ⟨by omega, by omega⟩ ?_; conv => whnf) | (refine need_i (by first | omega | (simp only [List.length_cons, List.length_nil]; omega) | (simp only [List.length_append, List.length_cons, List.length_nil, List.length_map, List.length_replicate, List.length_modify]; omega)) ?_; conv => whnf) | ((with_reducible first | refine branch_tt ?_ | refine branch_ff ?_); conv => whnf) | (with_reducible refine branch_not ?_) | ((refine idx_cs hx ?_); conv => whnf) | ((refine call_e (find1_ok x n) ?_); conv => whnf) | ((with_reducible first | refine slc_e ?_ | refine callS_a ?_ | refine bld_a ?_ | refine own_e ?_ | refine mkmap_b ?_ | refine lnk_a ?_); conv => whnf) | ((with_reducible first | refine branch_d (fun hq => ?_) (fun hq => ?_) | refine branch_e (fun hq => ?_) (fun hq => ?_) | refine branch_n (fun hq => ?_) (fun hq => ?_) | refine branch_i (fun hq => ?_) (fun hq => ?_)) <;> (try (exfalso; omega)) <;> (conv => whnf))))
      by_cases hn : x.number = n
      · have e : (cmpI x.number n == 0) = true := by rw [beq_iff_eq]; exact cmp_eq.2 hn
        exact ret_t (rs := [.int .i64 i, .bool (cmpI x.number n == 0)]) ⟨(rc_p rfl).g, (rc_p rfl).g, trivial⟩ (by rw [e]; unfold IdxR; rw [idx_some hlo hx hn])
      · have e : (cmpI x.number n == 0) = false := by rw [beq_eq_false_iff_ne]; exact fun h => hn (cmp_eq.1 h)
        exact ret_t (rs := [.int .i64 i, .bool (cmpI x.number n == 0)]) ⟨(rc_p rfl).g, (rc_p rfl).g, trivial⟩ (by rw [e]; exact idx_none hs.asc hlo hhi fun y hy => by rw [hx] at hy; injection hy with hy; rw [← hy]; exact hn)
    · (conv => whnf); (repeat' (first | (refine arith_i ⟨by omega, by omega⟩ ?_; conv => whnf) | (refine arith_u ⟨by omega, by omega⟩ ?_; conv => whnf) | (refine arith_8 ⟨by omega, by omega⟩ ?_; conv => whnf) | (refine need_i (by first | omega | (simp only [List.length_cons, List.length_nil]; omega) | (simp only [List.length_append, List.length_cons, List.length_nil, List.length_map, List.length_replicate, List.length_modify]; omega)) ?_; conv => whnf) | ((with_reducible first | refine branch_tt ?_ | refine branch_ff ?_); conv => whnf) | (with_reducible refine branch_not ?_) | ((with_reducible first | refine slc_e ?_ | refine callS_a ?_ | refine bld_a ?_ | refine own_e ?_ | refine mkmap_b ?_ | refine lnk_a ?_); conv => whnf) | ((with_reducible first | refine branch_d (fun hq => ?_) (fun hq => ?_) | refine branch_e (fun hq => ?_) (fun hq => ?_) | refine branch_n (fun hq => ?_) (fun hq => ?_) | refine branch_i (fun hq => ?_) (fun hq => ?_)) <;> (try (exfalso; omega)) <;> (conv => whnf))))
      exact ret_t (rs := [.int .i64 i, .bool false]) ⟨(rc_p rfl).g, (rc_p rfl).g, trivial⟩ (idx_none hs.asc hlo hhi (fun x hx => absurd (List.getElem?_eq_some_iff.1 hx).1 (by omega)))
theorem sFind_ok (s : List Scr) (n : Int) (hs : ScsOk s) : Good Try.prog TT false 38 [scrsV s, .int .i64 n] (ScriptR s n) := by
  have LS : (s.map encR).length = s.length := List.length_map ..
  cases hf : findS s n with
  | some i =>
    obtain ⟨x, hx, hn⟩ := findS_at hf
    refine good_of mixed tabOk Try.func38 rfl rfl Try.ntmps38 Try.results38 rfl rfl ?_
    (conv => whnf); (repeat' (first | (refine arith_i ⟨by omega, by omega⟩ ?_; conv => whnf) | (refine arith_u ⟨by omega, by omega⟩ ?_; conv => whnf) | (refine arith_8 ⟨by omega, by omega⟩ ?_; conv => whnf) | (refine need_i (by first | omega | (simp only [List.length_cons, List.length_nil]; omega) | (simp only [List.length_append, List.length_cons, List.length_nil, List.length_map, List.length_replicate, List.length_modify]; omega)) ?_; conv => whnf) | ((with_reducible first | refine branch_tt ?_ | refine branch_ff ?_); conv => whnf) | (with_reducible refine branch_not ?_) | ((refine call_e ((bsearch26_ok s n hs).mono fun r h => (by unfold IdxR at h; rw [hf] at h; exact h : r = .tup [.int .i64 i, .bool true])) ?_); conv => whnf) | ((refine idx_cs hx ?_); conv => whnf) | ((with_reducible first | refine slc_e ?_ | refine callS_a ?_ | refine bld_a ?_ | refine own_e ?_ | refine mkmap_b ?_ | refine lnk_a ?_); conv => whnf) | ((with_reducible first | refine branch_d (fun hq => ?_) (fun hq => ?_) | refine branch_e (fun hq => ?_) (fun hq => ?_) | refine branch_n (fun hq => ?_) (fun hq => ?_) | refine branch_i (fun hq => ?_) (fun hq => ?_)) <;> (try (exfalso; omega)) <;> (conv => whnf))))
    exact ret_t (rs := [.agg (encR x), .bool true]) ⟨.inr ⟨_, _, rfl, rfl, rc_p rfl, rc_p rfl, rc_p rfl, rc_p rfl, rc_p rfl, rc_p rfl, rc_p rfl, trivial⟩, (rc_p rfl).g, trivial⟩ (by unfold ScriptR; rw [hf]; exact ⟨x, hx, rfl⟩)
  | none =>
    refine good_of mixed tabOk Try.func38 rfl rfl Try.ntmps38 Try.results38 rfl rfl ?_
    (conv => whnf); (repeat' (first | (refine arith_i ⟨by omega, by omega⟩ ?_; conv => whnf) | (refine arith_u ⟨by omega, by omega⟩ ?_; conv => whnf) | (refine arith_8 ⟨by omega, by omega⟩ ?_; conv => whnf) | (refine need_i (by first | omega | (simp only [List.length_cons, List.length_nil]; omega) | (simp only [List.length_append, List.length_cons, List.length_nil, List.length_map, List.length_replicate, List.length_modify]; omega)) ?_; conv => whnf) | ((with_reducible first | refine branch_tt ?_ | refine branch_ff ?_); conv => whnf) | (with_reducible refine branch_not ?_) | (((refine call_i (bsearch26_ok s n hs) fun r h => ?_; unfold IdxR at h; rw [hf] at h; obtain ⟨i, rfl⟩ := h)); conv => whnf) | ((with_reducible first | refine slc_e ?_ | refine callS_a ?_ | refine bld_a ?_ | refine own_e ?_ | refine mkmap_b ?_ | refine lnk_a ?_); conv => whnf) | ((with_reducible first | refine branch_d (fun hq => ?_) (fun hq => ?_) | refine branch_e (fun hq => ?_) (fun hq => ?_) | refine branch_n (fun hq => ?_) (fun hq => ?_) | refine branch_i (fun hq => ?_) (fun hq => ?_)) <;> (try (exfalso; omega)) <;> (conv => whnf))))
    exact ret_t (rs := [scr0R, .bool false]) ⟨.inr ⟨_, _, rfl, rfl, rc_p rfl, rc_p rfl, rc_p rfl, rc_p rfl, rc_p rfl, rc_n, rc_n, trivial⟩, (rc_p rfl).g, trivial⟩ (by unfold ScriptR; rw [hf])
def viewV (s : Scr) (place : Int) : AV := .agg [.int .i64 place, .int .i64 s.paper, .int .i64 s.variant, ints s.pages]
theorem see_ok (s : Scr) (place : Int) (hp : s.pages.length ≤ 1000000) : Good Try.prog TT false 13 [.agg (encR s), .int .i64 place] (· = viewV s place) := by
  refine good_of mixed tabOk Try.func13 rfl rfl Try.ntmps13 Try.results13 rfl rfl ?_
  (conv => whnf); (repeat' (first | (refine arith_i ⟨by omega, by omega⟩ ?_; conv => whnf) | (refine arith_u ⟨by omega, by omega⟩ ?_; conv => whnf) | (refine arith_8 ⟨by omega, by omega⟩ ?_; conv => whnf) | (refine need_i (by first | omega | (simp only [List.length_cons, List.length_nil]; omega) | (simp only [List.length_append, List.length_cons, List.length_nil, List.length_map, List.length_replicate, List.length_modify]; omega)) ?_; conv => whnf) | ((with_reducible first | refine branch_tt ?_ | refine branch_ff ?_); conv => whnf) | (with_reducible refine branch_not ?_) | ((refine call_e (clone_ok s.pages hp) ?_); conv => whnf) | ((with_reducible first | refine slc_e ?_ | refine callS_a ?_ | refine bld_a ?_ | refine own_e ?_ | refine mkmap_b ?_ | refine lnk_a ?_); conv => whnf) | (refine draw_i 9 plGL26b_0 (by decide +kernel) ?_; (conv => whnf); fail_if_success (guard_target =~ False)) | (refine draw_i 9 plGL26b_1 (by decide +kernel) ?_; (conv => whnf); fail_if_success (guard_target =~ False)) | ((with_reducible refine And.intro ?_ ?_) <;> (conv => whnf)) | (with_reducible exact trivial) | ((with_reducible first | refine branch_d (fun hq => ?_) (fun hq => ?_) | refine branch_e (fun hq => ?_) (fun hq => ?_) | refine branch_n (fun hq => ?_) (fun hq => ?_) | refine branch_i (fun hq => ?_) (fun hq => ?_)) <;> (try (exfalso; omega)) <;> (conv => whnf))))
  exact ret_a (cs' := [.int .i64 place, .int .i64 s.paper, .int .i64 s.variant, ints s.pages]) ⟨rc_p rfl, rc_p rfl, rc_p rfl, rc_o, trivial⟩ rfl
def mergeF : List Int → List Int → List Int
  | [], vs => vs
  | a :: us, [] => a :: us
  | a :: us, b :: vs => if a < b then a :: mergeF us (b :: vs) else if b < a then b :: mergeF (a :: us) vs else a :: mergeF us vs
termination_by us vs => us.length + vs.length
theorem merge_nil {us : List Int} : mergeF us [] = us := by cases us <;> simp [mergeF]
theorem merge_nil2 {vs : List Int} : mergeF [] vs = vs := by simp [mergeF]
theorem merge_len : ∀ (us vs : List Int), (mergeF us vs).length ≤ us.length + vs.length
  | [], vs => by simp [mergeF]
  | a :: us, [] => by simp [mergeF]
  | a :: us, b :: vs => by
    rw [mergeF]
    have h1 := merge_len us (b :: vs)
    have h2 := merge_len (a :: us) vs
    have h3 := merge_len us vs
    simp only [List.length_cons] at h1 h2 h3 ⊢
    split
    · simp only [List.length_cons]; omega
    · split <;> simp only [List.length_cons] <;> omega
termination_by us vs => us.length + vs.length
set_option maxHeartbeats 4000000 in
theorem merged_ok (a b : List Int) (ha : a.length ≤ 1000) (hb : b.length ≤ 1000) : Good Try.prog TT false 66 [ints a, ints b] (· = .own 0 3 1 ((mergeF a b).map encI)) := by
  have LA : (a.map encI).length = a.length := List.length_map ..
  have LB : (b.map encI).length = b.length := List.length_map ..
  refine good_of mixed tabOk Try.func66 rfl rfl Try.ntmps66 Try.results66 rfl rfl ?_
  (conv => whnf); (repeat' (first | (refine arith_i ⟨by omega, by omega⟩ ?_; conv => whnf) | (refine arith_u ⟨by omega, by omega⟩ ?_; conv => whnf) | (refine arith_8 ⟨by omega, by omega⟩ ?_; conv => whnf) | (refine need_i (by first | omega | (simp only [List.length_cons, List.length_nil]; omega) | (simp only [List.length_append, List.length_cons, List.length_nil, List.length_map, List.length_replicate, List.length_modify]; omega)) ?_; conv => whnf) | ((with_reducible first | refine branch_tt ?_ | refine branch_ff ?_); conv => whnf) | (with_reducible refine branch_not ?_) | ((with_reducible first | refine slc_e ?_ | refine callS_a ?_ | refine bld_a ?_ | refine own_e ?_ | refine mkmap_b ?_ | refine lnk_a ?_); conv => whnf) | (refine draw_i 22 plGL26b_3 (by decide +kernel) ?_; (conv => whnf); fail_if_success (guard_target =~ False)) | (refine draw_i 22 plGL26b_4 (by decide +kernel) ?_; (conv => whnf); fail_if_success (guard_target =~ False)) | (refine draw_i 16 plGL26b_5 (by decide +kernel) ?_; (conv => whnf); fail_if_success (guard_target =~ False)) | (refine draw_i 16 plGL26b_6 (by decide +kernel) ?_; (conv => whnf); fail_if_success (guard_target =~ False)) | ((with_reducible refine And.intro ?_ ?_) <;> (conv => whnf)) | (with_reducible exact trivial) | ((with_reducible first | refine branch_d (fun hq => ?_) (fun hq => ?_) | refine branch_e (fun hq => ?_) (fun hq => ?_) | refine branch_n (fun hq => ?_) (fun hq => ?_) | refine branch_i (fun hq => ?_) (fun hq => ?_)) <;> (try (exfalso; omega)) <;> (conv => whnf))))
  refine loop_i3 (fun (i j : Nat) (out : List Int) => i ≤ a.length ∧ j ≤ b.length ∧ out ++ mergeF (a.drop i) (b.drop j) = mergeF a b ∧ out.length ≤ i + j) (fun i j out => mkSt [(0, ints a), (1, ints b), (5, .own 200 3 1 (out.map encI)), (6, .int .i64 i), (7, .int .i64 j)] [] false) (fun i j _ => a.length - i + (b.length - j)) 0 0 [] ⟨Nat.zero_le _, Nat.zero_le _, rfl, Nat.le_refl _⟩ (Le.trans (le_adopt 5 200 3 1 rfl) (le_mk ⟨rfl, rfl, rfl, rfl, rfl, trivial⟩ trivial rfl)) ?_
  rintro i j out ⟨hi, hj, ho, hl⟩
  have LO : (out.map encI).length = out.length := List.length_map ..
  have snoc : ∀ x : Int, (out ++ [x]).map encI = out.map encI ++ [[.int .i64 x]] := fun x => by rw [List.map_append]; rfl
  rcases Nat.lt_or_ge i a.length with hil | hil
  · obtain ⟨x, hx⟩ : ∃ x, a[i]? = some x := ⟨_, List.getElem?_eq_getElem hil⟩
    rcases Nat.lt_or_ge j b.length with hjl | hjl
    · obtain ⟨y, hy⟩ : ∃ y, b[j]? = some y := ⟨_, List.getElem?_eq_getElem hjl⟩
      rw [drop_at hx, drop_at hy, mergeF, ← drop_at hx, ← drop_at hy] at ho
      rcases Int.lt_trichotomy x y with g | g | g
      · rw [if_pos g] at ho
        (conv => whnf); (repeat' (first | (refine arith_i ⟨by omega, by omega⟩ ?_; conv => whnf) | (refine arith_u ⟨by omega, by omega⟩ ?_; conv => whnf) | (refine arith_8 ⟨by omega, by omega⟩ ?_; conv => whnf) | (refine need_i (by first | omega | (simp only [List.length_cons, List.length_nil]; omega) | (simp only [List.length_append, List.length_cons, List.length_nil, List.length_map, List.length_replicate, List.length_modify]; omega)) ?_; conv => whnf) | ((with_reducible first | refine branch_tt ?_ | refine branch_ff ?_); conv => whnf) | (with_reducible refine branch_not ?_) | ((refine idx_cs hx ?_); conv => whnf) | ((refine idx_cs hy ?_); conv => whnf) | ((with_reducible first | refine slc_e ?_ | refine callS_a ?_ | refine bld_a ?_ | refine own_e ?_ | refine mkmap_b ?_ | refine lnk_a ?_); conv => whnf) | (refine draw_i 22 plGL26b_3 (by decide +kernel) ?_; (conv => whnf); fail_if_success (guard_target =~ False)) | (refine draw_i 22 plGL26b_4 (by decide +kernel) ?_; (conv => whnf); fail_if_success (guard_target =~ False)) | (refine draw_i 16 plGL26b_5 (by decide +kernel) ?_; (conv => whnf); fail_if_success (guard_target =~ False)) | (refine draw_i 16 plGL26b_6 (by decide +kernel) ?_; (conv => whnf); fail_if_success (guard_target =~ False)) | ((with_reducible refine And.intro ?_ ?_) <;> (conv => whnf)) | (with_reducible exact trivial) | ((with_reducible first | refine branch_d (fun hq => ?_) (fun hq => ?_) | refine branch_e (fun hq => ?_) (fun hq => ?_) | refine branch_n (fun hq => ?_) (fun hq => ?_) | refine branch_i (fun hq => ?_) (fun hq => ?_)) <;> (try (exfalso; omega)) <;> (conv => whnf))))
        exact ⟨i + 1, j, out ++ [x], ⟨by omega, hj, by rw [← ho]; simp, by simp; omega⟩, by rw [snoc]; exact (le_mk (by repeat' (first | exact trivial | rfl | apply And.intro)) (by repeat' (first | exact trivial | rfl | apply And.intro)) rfl), by omega⟩
      · rw [if_neg (by omega), if_neg (by omega)] at ho
        (conv => whnf); (repeat' (first | (refine arith_i ⟨by omega, by omega⟩ ?_; conv => whnf) | (refine arith_u ⟨by omega, by omega⟩ ?_; conv => whnf) | (refine arith_8 ⟨by omega, by omega⟩ ?_; conv => whnf) | (refine need_i (by first | omega | (simp only [List.length_cons, List.length_nil]; omega) | (simp only [List.length_append, List.length_cons, List.length_nil, List.length_map, List.length_replicate, List.length_modify]; omega)) ?_; conv => whnf) | ((with_reducible first | refine branch_tt ?_ | refine branch_ff ?_); conv => whnf) | (with_reducible refine branch_not ?_) | ((refine idx_cs hx ?_); conv => whnf) | ((refine idx_cs hy ?_); conv => whnf) | ((with_reducible first | refine slc_e ?_ | refine callS_a ?_ | refine bld_a ?_ | refine own_e ?_ | refine mkmap_b ?_ | refine lnk_a ?_); conv => whnf) | (refine draw_i 22 plGL26b_3 (by decide +kernel) ?_; (conv => whnf); fail_if_success (guard_target =~ False)) | (refine draw_i 22 plGL26b_4 (by decide +kernel) ?_; (conv => whnf); fail_if_success (guard_target =~ False)) | (refine draw_i 16 plGL26b_5 (by decide +kernel) ?_; (conv => whnf); fail_if_success (guard_target =~ False)) | (refine draw_i 16 plGL26b_6 (by decide +kernel) ?_; (conv => whnf); fail_if_success (guard_target =~ False)) | ((with_reducible refine And.intro ?_ ?_) <;> (conv => whnf)) | (with_reducible exact trivial) | ((with_reducible first | refine branch_d (fun hq => ?_) (fun hq => ?_) | refine branch_e (fun hq => ?_) (fun hq => ?_) | refine branch_n (fun hq => ?_) (fun hq => ?_) | refine branch_i (fun hq => ?_) (fun hq => ?_)) <;> (try (exfalso; omega)) <;> (conv => whnf))))
        exact ⟨i + 1, j + 1, out ++ [x], ⟨by omega, by omega, by rw [← ho]; simp, by simp; omega⟩, by rw [snoc]; exact (le_mk (by repeat' (first | exact trivial | rfl | apply And.intro)) (by repeat' (first | exact trivial | rfl | apply And.intro)) rfl), by omega⟩
      · rw [if_neg (by omega), if_pos g] at ho
        (conv => whnf); (repeat' (first | (refine arith_i ⟨by omega, by omega⟩ ?_; conv => whnf) | (refine arith_u ⟨by omega, by omega⟩ ?_; conv => whnf) | (refine arith_8 ⟨by omega, by omega⟩ ?_; conv => whnf) | (refine need_i (by first | omega | (simp only [List.length_cons, List.length_nil]; omega) | (simp only [List.length_append, List.length_cons, List.length_nil, List.length_map, List.length_replicate, List.length_modify]; omega)) ?_; conv => whnf) | ((with_reducible first | refine branch_tt ?_ | refine branch_ff ?_); conv => whnf) | (with_reducible refine branch_not ?_) | ((refine idx_cs hx ?_); conv => whnf) | ((refine idx_cs hy ?_); conv => whnf) | ((with_reducible first | refine slc_e ?_ | refine callS_a ?_ | refine bld_a ?_ | refine own_e ?_ | refine mkmap_b ?_ | refine lnk_a ?_); conv => whnf) | (refine draw_i 22 plGL26b_3 (by decide +kernel) ?_; (conv => whnf); fail_if_success (guard_target =~ False)) | (refine draw_i 22 plGL26b_4 (by decide +kernel) ?_; (conv => whnf); fail_if_success (guard_target =~ False)) | (refine draw_i 16 plGL26b_5 (by decide +kernel) ?_; (conv => whnf); fail_if_success (guard_target =~ False)) | (refine draw_i 16 plGL26b_6 (by decide +kernel) ?_; (conv => whnf); fail_if_success (guard_target =~ False)) | ((with_reducible refine And.intro ?_ ?_) <;> (conv => whnf)) | (with_reducible exact trivial) | ((with_reducible first | refine branch_d (fun hq => ?_) (fun hq => ?_) | refine branch_e (fun hq => ?_) (fun hq => ?_) | refine branch_n (fun hq => ?_) (fun hq => ?_) | refine branch_i (fun hq => ?_) (fun hq => ?_)) <;> (try (exfalso; omega)) <;> (conv => whnf))))
        exact ⟨i, j + 1, out ++ [y], ⟨hi, by omega, by rw [← ho]; simp, by simp; omega⟩, by rw [snoc]; exact (le_mk (by repeat' (first | exact trivial | rfl | apply And.intro)) (by repeat' (first | exact trivial | rfl | apply And.intro)) rfl), by omega⟩
    · obtain rfl : j = b.length := by omega
      rw [drop_at hx, List.drop_length, merge_nil] at ho
      (conv => whnf); (repeat' (first | (refine arith_i ⟨by omega, by omega⟩ ?_; conv => whnf) | (refine arith_u ⟨by omega, by omega⟩ ?_; conv => whnf) | (refine arith_8 ⟨by omega, by omega⟩ ?_; conv => whnf) | (refine need_i (by first | omega | (simp only [List.length_cons, List.length_nil]; omega) | (simp only [List.length_append, List.length_cons, List.length_nil, List.length_map, List.length_replicate, List.length_modify]; omega)) ?_; conv => whnf) | ((with_reducible first | refine branch_tt ?_ | refine branch_ff ?_); conv => whnf) | (with_reducible refine branch_not ?_) | ((refine idx_cs hx ?_); conv => whnf) | ((with_reducible first | refine slc_e ?_ | refine callS_a ?_ | refine bld_a ?_ | refine own_e ?_ | refine mkmap_b ?_ | refine lnk_a ?_); conv => whnf) | (refine draw_i 22 plGL26b_3 (by decide +kernel) ?_; (conv => whnf); fail_if_success (guard_target =~ False)) | (refine draw_i 22 plGL26b_4 (by decide +kernel) ?_; (conv => whnf); fail_if_success (guard_target =~ False)) | (refine draw_i 16 plGL26b_5 (by decide +kernel) ?_; (conv => whnf); fail_if_success (guard_target =~ False)) | (refine draw_i 16 plGL26b_6 (by decide +kernel) ?_; (conv => whnf); fail_if_success (guard_target =~ False)) | ((with_reducible refine And.intro ?_ ?_) <;> (conv => whnf)) | (with_reducible exact trivial) | ((with_reducible first | refine branch_d (fun hq => ?_) (fun hq => ?_) | refine branch_e (fun hq => ?_) (fun hq => ?_) | refine branch_n (fun hq => ?_) (fun hq => ?_) | refine branch_i (fun hq => ?_) (fun hq => ?_)) <;> (try (exfalso; omega)) <;> (conv => whnf))))
      exact ⟨i + 1, b.length, out ++ [x], ⟨by omega, hj, by rw [List.drop_length, merge_nil, ← ho]; simp, by simp; omega⟩, by rw [snoc]; exact (le_mk (by repeat' (first | exact trivial | rfl | apply And.intro)) (by repeat' (first | exact trivial | rfl | apply And.intro)) rfl), by omega⟩
  · obtain rfl : i = a.length := by omega
    rcases Nat.lt_or_ge j b.length with hjl | hjl
    · obtain ⟨y, hy⟩ : ∃ y, b[j]? = some y := ⟨_, List.getElem?_eq_getElem hjl⟩
      rw [drop_at hy, List.drop_length, merge_nil2] at ho
      (conv => whnf); (repeat' (first | (refine arith_i ⟨by omega, by omega⟩ ?_; conv => whnf) | (refine arith_u ⟨by omega, by omega⟩ ?_; conv => whnf) | (refine arith_8 ⟨by omega, by omega⟩ ?_; conv => whnf) | (refine need_i (by first | omega | (simp only [List.length_cons, List.length_nil]; omega) | (simp only [List.length_append, List.length_cons, List.length_nil, List.length_map, List.length_replicate, List.length_modify]; omega)) ?_; conv => whnf) | ((with_reducible first | refine branch_tt ?_ | refine branch_ff ?_); conv => whnf) | (with_reducible refine branch_not ?_) | ((refine idx_cs hy ?_); conv => whnf) | ((with_reducible first | refine slc_e ?_ | refine callS_a ?_ | refine bld_a ?_ | refine own_e ?_ | refine mkmap_b ?_ | refine lnk_a ?_); conv => whnf) | (refine draw_i 22 plGL26b_3 (by decide +kernel) ?_; (conv => whnf); fail_if_success (guard_target =~ False)) | (refine draw_i 22 plGL26b_4 (by decide +kernel) ?_; (conv => whnf); fail_if_success (guard_target =~ False)) | (refine draw_i 16 plGL26b_5 (by decide +kernel) ?_; (conv => whnf); fail_if_success (guard_target =~ False)) | (refine draw_i 16 plGL26b_6 (by decide +kernel) ?_; (conv => whnf); fail_if_success (guard_target =~ False)) | ((with_reducible refine And.intro ?_ ?_) <;> (conv => whnf)) | (with_reducible exact trivial) | ((with_reducible first | refine branch_d (fun hq => ?_) (fun hq => ?_) | refine branch_e (fun hq => ?_) (fun hq => ?_) | refine branch_n (fun hq => ?_) (fun hq => ?_) | refine branch_i (fun hq => ?_) (fun hq => ?_)) <;> (try (exfalso; omega)) <;> (conv => whnf))))
      exact ⟨a.length, j + 1, out ++ [y], ⟨hi, by omega, by rw [List.drop_length, merge_nil2, ← ho]; simp, by simp; omega⟩, by rw [snoc]; exact (le_mk (by repeat' (first | exact trivial | rfl | apply And.intro)) (by repeat' (first | exact trivial | rfl | apply And.intro)) rfl), by omega⟩
    · obtain rfl : j = b.length := by omega
      rw [List.drop_length, List.drop_length, merge_nil, List.append_nil] at ho
      (conv => whnf); (repeat' (first | (refine arith_i ⟨by omega, by omega⟩ ?_; conv => whnf) | (refine arith_u ⟨by omega, by omega⟩ ?_; conv => whnf) | (refine arith_8 ⟨by omega, by omega⟩ ?_; conv => whnf) | (refine need_i (by first | omega | (simp only [List.length_cons, List.length_nil]; omega) | (simp only [List.length_append, List.length_cons, List.length_nil, List.length_map, List.length_replicate, List.length_modify]; omega)) ?_; conv => whnf) | ((with_reducible first | refine branch_tt ?_ | refine branch_ff ?_); conv => whnf) | (with_reducible refine branch_not ?_) | ((with_reducible first | refine slc_e ?_ | refine callS_a ?_ | refine bld_a ?_ | refine own_e ?_ | refine mkmap_b ?_ | refine lnk_a ?_); conv => whnf) | (refine draw_i 22 plGL26b_3 (by decide +kernel) ?_; (conv => whnf); fail_if_success (guard_target =~ False)) | (refine draw_i 22 plGL26b_4 (by decide +kernel) ?_; (conv => whnf); fail_if_success (guard_target =~ False)) | (refine draw_i 16 plGL26b_5 (by decide +kernel) ?_; (conv => whnf); fail_if_success (guard_target =~ False)) | (refine draw_i 16 plGL26b_6 (by decide +kernel) ?_; (conv => whnf); fail_if_success (guard_target =~ False)) | ((with_reducible refine And.intro ?_ ?_) <;> (conv => whnf)) | (with_reducible exact trivial) | ((with_reducible first | refine branch_d (fun hq => ?_) (fun hq => ?_) | refine branch_e (fun hq => ?_) (fun hq => ?_) | refine branch_n (fun hq => ?_) (fun hq => ?_) | refine branch_i (fun hq => ?_) (fun hq => ?_)) <;> (try (exfalso; omega)) <;> (conv => whnf))))
      rw [← ho]
      exact ret_o rfl
end Go.Proofs.Ythgnomniboindaa
end

/- Layer 26: valid marks, definitive marks: of the program. -/
section
namespace Go.Proofs.Ythgnomniboindaa
set_option linter.unusedVariables false
set_option linter.unusedSimpArgs false
set_option linter.unnecessarySimpa false
set_option linter.unusedSectionVars false
set_option maxRecDepth 10000
open Go.RowKit
def plGL26c_0 : Plan := (.take 0 (.take 1 (.take 2 (.take 3 (.take 4 (.take 5 (.take 6 (.take 7 (.take 8 (.take 9 (.take 10 (.take 11 (.take 12 (.take 13 .done))))))))))))))
def plGL26c_1 : Plan := (.take 0 (.take 1 (.take 2 (.alt 3 (.take 4 (.take 5 (.take 6 (.take 7 (.take 8 (.take 10 (.alt 9 (.alt 11 (.take 12 (.take 13 .done)) .stop) (.alt 11 (.alt 9 (.take 12 (.take 13 .done)) .stop) .stop)))))))) .stop))))
structure Sed where
  script : Int
  marks : List Int
def encSd (x : Sed) : List AV := [.int .i64 x.script, ints x.marks]
def sedsV (l : List Sed) : AV := .lst 2 (l.map encSd)
def defF (l : List Sed) (n : Int) : Option Sed := l.find? (·.script == n)
def defV (l : List Sed) (n : Int) : AV := match defF l n with | some x => .tup [ints x.marks, .bool true] | none => .tup [ints [], .bool false]
theorem clone44_ok (xs : List Int) (hl : xs.length ≤ 17592186044416) : Good Try.prog TT false 35 [ints xs] (· = .own 0 3 1 (xs.map encI)) := by
  have L : (xs.map encI).length = xs.length := List.length_map ..
  refine good_of mixed tabOk Try.func35 rfl rfl Try.ntmps35 Try.results35 rfl rfl ?_
  (conv => whnf); (repeat (first | (refine arith_i ⟨by omega, by omega⟩ ?_; conv => whnf) | (refine need_i (by first | omega | (simp only [List.length_append, List.length_cons, List.length_nil]; omega)) ?_; conv => whnf) | ((with_reducible first | refine branch_tt ?_ | refine branch_ff ?_); conv => whnf) | (with_reducible refine branch_not ?_) | ((with_reducible first | refine slc_e ?_ | refine callS_a ?_ | refine bld_a ?_ | refine own_e ?_ | refine mkmap_b ?_ | refine lnk_a ?_); conv => whnf)))
  refine nil_i (fun h => ?_) ?_
  · (conv => whnf); (repeat (first | (refine arith_i ⟨by omega, by omega⟩ ?_; conv => whnf) | (refine need_i (by first | omega | (simp only [List.length_append, List.length_cons, List.length_nil]; omega)) ?_; conv => whnf) | ((with_reducible first | refine branch_tt ?_ | refine branch_ff ?_); conv => whnf) | (with_reducible refine branch_not ?_) | ((with_reducible first | refine slc_e ?_ | refine callS_a ?_ | refine bld_a ?_ | refine own_e ?_ | refine mkmap_b ?_ | refine lnk_a ?_); conv => whnf)))
    exact ret_n (e := 3) (z := 1) (by rw [h])
  · (conv => whnf); (repeat (first | (refine arith_i ⟨by omega, by omega⟩ ?_; conv => whnf) | (refine need_i (by first | omega | (simp only [List.length_append, List.length_cons, List.length_nil]; omega)) ?_; conv => whnf) | ((with_reducible first | refine branch_tt ?_ | refine branch_ff ?_); conv => whnf) | (with_reducible refine branch_not ?_) | ((with_reducible first | refine slc_e ?_ | refine callS_a ?_ | refine bld_a ?_ | refine own_e ?_ | refine mkmap_b ?_ | refine lnk_a ?_); conv => whnf)))
    exact ret_o rfl
theorem definitive_ok (l : List Sed) (n : Int) (hl : l.length ≤ 1000) (hm : ∀ (k : Nat) (x : Sed), l[k]? = some x → x.marks.length ≤ 17592186044416) : Good Try.prog TT false 20 [sedsV l, .int .i64 n] (· = defV l n) := by
  have LL : (l.map encSd).length = l.length := List.length_map ..
  refine good_of mixed tabOk Try.func20 rfl rfl Try.ntmps20 Try.results20 rfl rfl ?_
  (conv => whnf); (repeat' (first | (refine arith_i ⟨by omega, by omega⟩ ?_; conv => whnf) | (refine arith_u ⟨by omega, by omega⟩ ?_; conv => whnf) | (refine arith_8 ⟨by omega, by omega⟩ ?_; conv => whnf) | (refine need_i (by first | omega | (simp only [List.length_cons, List.length_nil]; omega) | (simp only [List.length_append, List.length_cons, List.length_nil, List.length_map, List.length_replicate, List.length_modify]; omega)) ?_; conv => whnf) | ((with_reducible first | refine branch_tt ?_ | refine branch_ff ?_); conv => whnf) | (with_reducible refine branch_not ?_) | ((with_reducible first | refine slc_e ?_ | refine callS_a ?_ | refine bld_a ?_ | refine own_e ?_ | refine mkmap_b ?_ | refine lnk_a ?_); conv => whnf) | ((with_reducible first | refine branch_d (fun hq => ?_) (fun hq => ?_) | refine branch_e (fun hq => ?_) (fun hq => ?_) | refine branch_n (fun hq => ?_) (fun hq => ?_) | refine branch_i (fun hq => ?_) (fun hq => ?_)) <;> (try (exfalso; omega)) <;> (conv => whnf))))
  refine loop_i (fun k : Nat => k ≤ l.length ∧ ∀ (i : Nat) (x : Sed), i < k → l[i]? = some x → x.script ≠ n) (fun k => mkSt [(1, .int .i64 n), (8, sedsV l), (9, .int .i64 l.length), (10, .int .i64 k)] [] false) (fun k => l.length - k) 0 ⟨Nat.zero_le _, fun i x h => absurd h (by omega)⟩ (le_mk ⟨rfl, rfl, int_eq (by rw [LL]), rfl, trivial⟩ trivial rfl) ?_
  rintro k ⟨hk, hall⟩
  rcases Nat.lt_or_ge k l.length with hkl | hkl
  · obtain ⟨x, hx⟩ : ∃ x, l[k]? = some x := ⟨_, List.getElem?_eq_getElem hkl⟩
    have hxm := hm k x hx
    (conv => whnf); (repeat' (first | (refine arith_i ⟨by omega, by omega⟩ ?_; conv => whnf) | (refine arith_u ⟨by omega, by omega⟩ ?_; conv => whnf) | (refine arith_8 ⟨by omega, by omega⟩ ?_; conv => whnf) | (refine need_i (by first | omega | (simp only [List.length_cons, List.length_nil]; omega) | (simp only [List.length_append, List.length_cons, List.length_nil, List.length_map, List.length_replicate, List.length_modify]; omega)) ?_; conv => whnf) | ((with_reducible first | refine branch_tt ?_ | refine branch_ff ?_); conv => whnf) | (with_reducible refine branch_not ?_) | ((refine idx_cs hx ?_); conv => whnf) | ((refine call_e (clone44_ok x.marks hxm) ?_); conv => whnf) | ((with_reducible first | refine slc_e ?_ | refine callS_a ?_ | refine bld_a ?_ | refine own_e ?_ | refine mkmap_b ?_ | refine lnk_a ?_); conv => whnf) | ((with_reducible first | refine branch_d (fun hq => ?_) (fun hq => ?_) | refine branch_e (fun hq => ?_) (fun hq => ?_) | refine branch_n (fun hq => ?_) (fun hq => ?_) | refine branch_i (fun hq => ?_) (fun hq => ?_)) <;> (try (exfalso; omega)) <;> (conv => whnf))))
    · have e : defF l n = some x := by
        unfold defF
        rw [List.find?_eq_some_iff_getElem]
        obtain ⟨h1, h2⟩ := List.getElem?_eq_some_iff.1 hx
        exact ⟨by simp only [beq_iff_eq]; assumption, k, h1, h2, fun j hj => by simpa using hall j _ hj (List.getElem?_eq_getElem (by omega))⟩
      exact ret_t (rs := [ints x.marks, .bool true]) ⟨.inl rc_o, (rc_p rfl).g, trivial⟩ (by unfold defV; rw [e])
    · refine ⟨k + 1, ⟨by omega, fun i y hi hy => ?_⟩, (le_mk (by repeat' (first | exact trivial | rfl | apply And.intro)) (by repeat' (first | exact trivial | rfl | apply And.intro)) rfl), by omega⟩
      rcases Nat.lt_or_ge i k with h' | h'
      · exact hall i y h' hy
      · obtain rfl : i = k := by omega
        rw [hx] at hy; injection hy with hy; rw [← hy]; assumption
  · (conv => whnf); (repeat' (first | (refine arith_i ⟨by omega, by omega⟩ ?_; conv => whnf) | (refine arith_u ⟨by omega, by omega⟩ ?_; conv => whnf) | (refine arith_8 ⟨by omega, by omega⟩ ?_; conv => whnf) | (refine need_i (by first | omega | (simp only [List.length_cons, List.length_nil]; omega) | (simp only [List.length_append, List.length_cons, List.length_nil, List.length_map, List.length_replicate, List.length_modify]; omega)) ?_; conv => whnf) | ((with_reducible first | refine branch_tt ?_ | refine branch_ff ?_); conv => whnf) | (with_reducible refine branch_not ?_) | ((with_reducible first | refine slc_e ?_ | refine callS_a ?_ | refine bld_a ?_ | refine own_e ?_ | refine mkmap_b ?_ | refine lnk_a ?_); conv => whnf) | ((with_reducible first | refine branch_d (fun hq => ?_) (fun hq => ?_) | refine branch_e (fun hq => ?_) (fun hq => ?_) | refine branch_n (fun hq => ?_) (fun hq => ?_) | refine branch_i (fun hq => ?_) (fun hq => ?_)) <;> (try (exfalso; omega)) <;> (conv => whnf))))
    have e : defF l n = none := by
      unfold defF
      rw [List.find?_eq_none]
      intro x hx
      obtain ⟨i, hi⟩ := List.getElem?_of_mem hx
      have := hall i x (by have := (List.getElem?_eq_some_iff.1 hi).1; omega) hi
      simpa using this
    exact ret_t (rs := [ints [], .bool false]) ⟨.inl rc_n, (rc_p rfl).g, trivial⟩ (by unfold defV; rw [e])
theorem rDefinitive_ok (l : List Sed) (n : Int) (hl : l.length ≤ 1000) (hm : ∀ (k : Nat) (x : Sed), l[k]? = some x → x.marks.length ≤ 17592186044416) : Good Try.prog TT false 21 [sedsV l, .int .i64 n] (· = defV l n) := by
  have LL : (l.map encSd).length = l.length := List.length_map ..
  refine good_of mixed tabOk Try.func21 rfl rfl Try.ntmps21 Try.results21 rfl rfl ?_
  (conv => whnf); (repeat' (first | (refine arith_i ⟨by omega, by omega⟩ ?_; conv => whnf) | (refine arith_u ⟨by omega, by omega⟩ ?_; conv => whnf) | (refine arith_8 ⟨by omega, by omega⟩ ?_; conv => whnf) | (refine need_i (by first | omega | (simp only [List.length_cons, List.length_nil]; omega) | (simp only [List.length_append, List.length_cons, List.length_nil, List.length_map, List.length_replicate, List.length_modify]; omega)) ?_; conv => whnf) | ((with_reducible first | refine branch_tt ?_ | refine branch_ff ?_); conv => whnf) | (with_reducible refine branch_not ?_) | ((with_reducible first | refine slc_e ?_ | refine callS_a ?_ | refine bld_a ?_ | refine own_e ?_ | refine mkmap_b ?_ | refine lnk_a ?_); conv => whnf) | ((with_reducible first | refine branch_d (fun hq => ?_) (fun hq => ?_) | refine branch_e (fun hq => ?_) (fun hq => ?_) | refine branch_n (fun hq => ?_) (fun hq => ?_) | refine branch_i (fun hq => ?_) (fun hq => ?_)) <;> (try (exfalso; omega)) <;> (conv => whnf))))
  refine loop_i (fun k : Nat => k ≤ l.length ∧ ∀ (i : Nat) (x : Sed), i < k → l[i]? = some x → x.script ≠ n) (fun k => mkSt [(0, sedsV l), (1, .int .i64 n), (6, .int .i64 k)] [] false) (fun k => l.length - k) 0 ⟨Nat.zero_le _, fun i x h => absurd h (by omega)⟩ (le_mk ⟨rfl, rfl, rfl, trivial⟩ trivial rfl) ?_
  rintro k ⟨hk, hall⟩
  rcases Nat.lt_or_ge k l.length with hkl | hkl
  · obtain ⟨x, hx⟩ : ∃ x, l[k]? = some x := ⟨_, List.getElem?_eq_getElem hkl⟩
    have hxm := hm k x hx
    (conv => whnf); (repeat' (first | (refine arith_i ⟨by omega, by omega⟩ ?_; conv => whnf) | (refine arith_u ⟨by omega, by omega⟩ ?_; conv => whnf) | (refine arith_8 ⟨by omega, by omega⟩ ?_; conv => whnf) | (refine need_i (by first | omega | (simp only [List.length_cons, List.length_nil]; omega) | (simp only [List.length_append, List.length_cons, List.length_nil, List.length_map, List.length_replicate, List.length_modify]; omega)) ?_; conv => whnf) | ((with_reducible first | refine branch_tt ?_ | refine branch_ff ?_); conv => whnf) | (with_reducible refine branch_not ?_) | ((refine idx_cs hx ?_); conv => whnf) | ((with_reducible first | refine slc_e ?_ | refine callS_a ?_ | refine bld_a ?_ | refine own_e ?_ | refine mkmap_b ?_ | refine lnk_a ?_); conv => whnf) | ((with_reducible first | refine branch_d (fun hq => ?_) (fun hq => ?_) | refine branch_e (fun hq => ?_) (fun hq => ?_) | refine branch_n (fun hq => ?_) (fun hq => ?_) | refine branch_i (fun hq => ?_) (fun hq => ?_)) <;> (try (exfalso; omega)) <;> (conv => whnf))))
    · have e : defF l n = some x := by
        unfold defF
        rw [List.find?_eq_some_iff_getElem]
        obtain ⟨h1, h2⟩ := List.getElem?_eq_some_iff.1 hx
        exact ⟨by simp only [beq_iff_eq]; assumption, k, h1, h2, fun j hj => by simpa using hall j _ hj (List.getElem?_eq_getElem (by omega))⟩
      exact ret_t (rs := [ints x.marks, .bool true]) ⟨.inl rc_o, (rc_p rfl).g, trivial⟩ (by unfold defV; rw [e])
    · refine ⟨k + 1, ⟨by omega, fun i y hi hy => ?_⟩, (le_mk (by repeat' (first | exact trivial | rfl | apply And.intro)) (by repeat' (first | exact trivial | rfl | apply And.intro)) rfl), by omega⟩
      rcases Nat.lt_or_ge i k with h' | h'
      · exact hall i y h' hy
      · obtain rfl : i = k := by omega
        rw [hx] at hy; injection hy with hy; rw [← hy]; assumption
  · (conv => whnf); (repeat' (first | (refine arith_i ⟨by omega, by omega⟩ ?_; conv => whnf) | (refine arith_u ⟨by omega, by omega⟩ ?_; conv => whnf) | (refine arith_8 ⟨by omega, by omega⟩ ?_; conv => whnf) | (refine need_i (by first | omega | (simp only [List.length_cons, List.length_nil]; omega) | (simp only [List.length_append, List.length_cons, List.length_nil, List.length_map, List.length_replicate, List.length_modify]; omega)) ?_; conv => whnf) | ((with_reducible first | refine branch_tt ?_ | refine branch_ff ?_); conv => whnf) | (with_reducible refine branch_not ?_) | ((with_reducible first | refine slc_e ?_ | refine callS_a ?_ | refine bld_a ?_ | refine own_e ?_ | refine mkmap_b ?_ | refine lnk_a ?_); conv => whnf) | ((with_reducible first | refine branch_d (fun hq => ?_) (fun hq => ?_) | refine branch_e (fun hq => ?_) (fun hq => ?_) | refine branch_n (fun hq => ?_) (fun hq => ?_) | refine branch_i (fun hq => ?_) (fun hq => ?_)) <;> (try (exfalso; omega)) <;> (conv => whnf))))
    have e : defF l n = none := by
      unfold defF
      rw [List.find?_eq_none]
      intro x hx
      obtain ⟨i, hi⟩ := List.getElem?_of_mem hx
      have := hall i x (by have := (List.getElem?_eq_some_iff.1 hi).1; omega) hi
      simpa using this
    exact ret_t (rs := [ints [], .bool false]) ⟨.inl rc_n, (rc_p rfl).g, trivial⟩ (by unfold defV; rw [e])
def vmB (ps : List Prt) (ms : List Int) : Nat → Bool
  | 0 => true
  | k + 1 => vmB ps ms k && (match ps[k]? with | some p => decide (0 ≤ nth ms k) && decide (nth ms k ≤ p.max) | none => false)
theorem vmB_false {ps : List Prt} {ms : List Int} {i j : Nat} (hij : i ≤ j) (h : vmB ps ms i = false) : vmB ps ms j = false := by
  induction hij with
  | refl => exact h
  | step _ ih => rw [vmB, ih]; rfl
theorem validMarks_ok (p : Pap) (ms : List Int) (hp : p.parts.length ≤ 1000) (hm : ms.length ≤ 17592186044416) : Good Try.prog TT false 42 [.agg (encPap p), ints ms] (· = .bool (decide (ms.length = p.parts.length) && vmB p.parts ms p.parts.length)) := by
  have LP : (p.parts.map encPrt).length = p.parts.length := List.length_map ..
  have LM : (ms.map encI).length = ms.length := List.length_map ..
  refine good_of mixed tabOk Try.func42 rfl rfl Try.ntmps42 Try.results42 rfl rfl ?_
  (conv => whnf); (repeat' (first | (refine arith_i ⟨by omega, by omega⟩ ?_; conv => whnf) | (refine arith_u ⟨by omega, by omega⟩ ?_; conv => whnf) | (refine arith_8 ⟨by omega, by omega⟩ ?_; conv => whnf) | (refine need_i (by first | omega | (simp only [List.length_cons, List.length_nil]; omega) | (simp only [List.length_append, List.length_cons, List.length_nil, List.length_map, List.length_replicate, List.length_modify]; omega)) ?_; conv => whnf) | ((with_reducible first | refine branch_tt ?_ | refine branch_ff ?_); conv => whnf) | (with_reducible refine branch_not ?_) | ((with_reducible first | refine slc_e ?_ | refine callS_a ?_ | refine bld_a ?_ | refine own_e ?_ | refine mkmap_b ?_ | refine lnk_a ?_); conv => whnf) | (refine draw_i 14 plGL26c_0 (by decide +kernel) ?_; (conv => whnf); fail_if_success (guard_target =~ False)) | (refine draw_i 14 plGL26c_1 (by decide +kernel) ?_; (conv => whnf); fail_if_success (guard_target =~ False)) | ((with_reducible refine And.intro ?_ ?_) <;> (conv => whnf)) | (with_reducible exact trivial) | ((with_reducible first | refine branch_d (fun hq => ?_) (fun hq => ?_) | refine branch_e (fun hq => ?_) (fun hq => ?_) | refine branch_n (fun hq => ?_) (fun hq => ?_) | refine branch_i (fun hq => ?_) (fun hq => ?_)) <;> (try (exfalso; omega)) <;> (conv => whnf))))
  · exact ret_p rfl (bool_eq (by rw [decide_eq_false (by omega)]; rfl))
  have e0 : ms.length = p.parts.length := by omega
  rw [decide_eq_true e0, Bool.true_and]
  refine loop_i (fun k : Nat => k ≤ p.parts.length ∧ vmB p.parts ms k = true) (fun k => mkSt [(1, ints ms), (14, .lst 6 (p.parts.map encPrt)), (15, .int .i64 p.parts.length), (16, .int .i64 k)] [] false) (fun k => p.parts.length - k) 0 ⟨Nat.zero_le _, rfl⟩ (le_mk ⟨rfl, rfl, int_eq (by rw [LP]), rfl, trivial⟩ trivial rfl) ?_
  rintro k ⟨hk, hv⟩
  rcases Nat.lt_or_ge k p.parts.length with hkl | hkl
  · obtain ⟨x, hx⟩ : ∃ x, p.parts[k]? = some x := ⟨_, List.getElem?_eq_getElem hkl⟩
    obtain ⟨y, hy⟩ : ∃ y, ms[k]? = some y := ⟨_, List.getElem?_eq_getElem (by omega)⟩
    have hn := nth_eq hy
    have hnx : vmB p.parts ms (k + 1) = (decide (0 ≤ y) && decide (y ≤ x.max)) := by rw [vmB, hv, hx, hn]; rfl
    have hbad : (y < 0 ∨ x.max < y) → vmB p.parts ms p.parts.length = false := fun h => vmB_false (i := k + 1) (by omega) (by
      rw [hnx, Bool.eq_false_iff, Ne]
      simp only [Bool.and_eq_true, decide_eq_true_eq]
      omega)
    (conv => whnf); (repeat' (first | (refine arith_i ⟨by omega, by omega⟩ ?_; conv => whnf) | (refine arith_u ⟨by omega, by omega⟩ ?_; conv => whnf) | (refine arith_8 ⟨by omega, by omega⟩ ?_; conv => whnf) | (refine need_i (by first | omega | (simp only [List.length_cons, List.length_nil]; omega) | (simp only [List.length_append, List.length_cons, List.length_nil, List.length_map, List.length_replicate, List.length_modify]; omega)) ?_; conv => whnf) | ((with_reducible first | refine branch_tt ?_ | refine branch_ff ?_); conv => whnf) | (with_reducible refine branch_not ?_) | ((refine idx_cs hx ?_); conv => whnf) | ((refine idx_cs hy ?_); conv => whnf) | ((with_reducible first | refine slc_e ?_ | refine callS_a ?_ | refine bld_a ?_ | refine own_e ?_ | refine mkmap_b ?_ | refine lnk_a ?_); conv => whnf) | (refine draw_i 14 plGL26c_0 (by decide +kernel) ?_; (conv => whnf); fail_if_success (guard_target =~ False)) | (refine draw_i 14 plGL26c_1 (by decide +kernel) ?_; (conv => whnf); fail_if_success (guard_target =~ False)) | ((with_reducible refine And.intro ?_ ?_) <;> (conv => whnf)) | (with_reducible exact trivial) | ((with_reducible first | refine branch_d (fun hq => ?_) (fun hq => ?_) | refine branch_e (fun hq => ?_) (fun hq => ?_) | refine branch_n (fun hq => ?_) (fun hq => ?_) | refine branch_i (fun hq => ?_) (fun hq => ?_)) <;> (try (exfalso; omega)) <;> (conv => whnf))))
    all_goals first | exact ret_p rfl (bool_eq (hbad (by omega)).symm) | exact ⟨k + 1, ⟨by omega, by rw [hnx, Bool.and_eq_true, decide_eq_true_eq, decide_eq_true_eq]; omega⟩, (le_mk (by repeat' (first | exact trivial | rfl | apply And.intro)) (by repeat' (first | exact trivial | rfl | apply And.intro)) rfl), by omega⟩
  · (conv => whnf); (repeat' (first | (refine arith_i ⟨by omega, by omega⟩ ?_; conv => whnf) | (refine arith_u ⟨by omega, by omega⟩ ?_; conv => whnf) | (refine arith_8 ⟨by omega, by omega⟩ ?_; conv => whnf) | (refine need_i (by first | omega | (simp only [List.length_cons, List.length_nil]; omega) | (simp only [List.length_append, List.length_cons, List.length_nil, List.length_map, List.length_replicate, List.length_modify]; omega)) ?_; conv => whnf) | ((with_reducible first | refine branch_tt ?_ | refine branch_ff ?_); conv => whnf) | (with_reducible refine branch_not ?_) | ((with_reducible first | refine slc_e ?_ | refine callS_a ?_ | refine bld_a ?_ | refine own_e ?_ | refine mkmap_b ?_ | refine lnk_a ?_); conv => whnf) | (refine draw_i 14 plGL26c_0 (by decide +kernel) ?_; (conv => whnf); fail_if_success (guard_target =~ False)) | (refine draw_i 14 plGL26c_1 (by decide +kernel) ?_; (conv => whnf); fail_if_success (guard_target =~ False)) | ((with_reducible refine And.intro ?_ ?_) <;> (conv => whnf)) | (with_reducible exact trivial) | ((with_reducible first | refine branch_d (fun hq => ?_) (fun hq => ?_) | refine branch_e (fun hq => ?_) (fun hq => ?_) | refine branch_n (fun hq => ?_) (fun hq => ?_) | refine branch_i (fun hq => ?_) (fun hq => ?_)) <;> (try (exfalso; omega)) <;> (conv => whnf))))
    obtain rfl : k = p.parts.length := by omega
    rw [hv]
    exact ret_p rfl rfl
end Go.Proofs.Ythgnomniboindaa
end

/- Layer 26: the dice's setups: papers of scripts, seeds, the monitor's rule. -/
section
namespace Go.Proofs.Ythgnomniboindaa
set_option linter.unusedVariables false
set_option linter.unusedSimpArgs false
set_option linter.unnecessarySimpa false
set_option linter.unusedSectionVars false
set_option maxRecDepth 10000
open Go.RowKit
def plGL26l_0 : Plan := (.take 0 (.take 1 (.take 2 (.take 3 (.take 4 (.take 5 (.take 6 (.take 7 (.take 8 (.take 9 (.take 10 (.take 11 (.take 12 (.take 13 (.take 14 (.take 15 (.take 16 (.take 17 .done))))))))))))))))))
def plGL26l_1 : Plan := (.take 0 (.take 1 (.take 2 (.take 3 (.take 5 (.take 6 (.alt 4 (.take 7 (.take 8 (.take 9 (.take 10 (.take 11 (.take 12 (.take 14 (.alt 13 (.alt 15 (.take 16 (.take 17 .done)) .stop) (.alt 15 (.alt 13 (.take 16 (.take 17 .done)) .stop) .stop))))))))) .stop)))))))
def plGL26l_2 : Plan := (.take 0 (.take 1 (.take 2 (.take 3 (.take 5 (.alt 4 (.alt 6 (.take 7 (.take 8 (.take 9 (.take 10 (.take 11 (.take 12 (.take 14 (.alt 13 (.alt 15 (.take 16 (.take 17 .done)) .stop) (.alt 15 (.alt 13 (.take 16 (.take 17 .done)) .stop) .stop))))))))) .stop) (.alt 6 (.alt 4 (.take 7 (.take 8 (.take 9 (.take 10 (.take 11 (.take 12 (.take 14 (.alt 13 (.alt 15 (.take 16 (.take 17 .done)) .stop) (.alt 15 (.alt 13 (.take 16 (.take 17 .done)) .stop) .stop))))))))) .stop) .stop)))))))
def plGL26l_3 : Plan := (.take 0 (.take 1 (.take 2 (.take 3 (.take 4 (.take 5 (.take 6 (.take 7 (.take 8 (.take 9 (.alt 10 (.alt 11 (.alt 12 (.take 13 (.alt 14 .done .stop)) .stop) .stop) .stop)))))))))))
def plGL26l_4 : Plan := (.take 0 (.take 1 (.take 2 (.take 3 (.take 4 (.take 5 (.take 6 (.take 7 (.alt 8 (.take 9 (.alt 10 (.alt 11 (.alt 12 (.take 13 (.alt 14 .done .stop)) .stop) .stop) .stop)) .stop)))))))))
def plGL26l_5 : Plan := (.take 0 (.take 2 (.take 3 (.take 5 (.alt 1 (.alt 4 (.take 6 (.take 7 (.alt 8 (.take 9 (.alt 10 (.alt 11 (.alt 12 (.take 13 (.alt 14 .done .stop)) .stop) .stop) .stop)) .stop))) .stop) (.alt 4 (.take 6 (.take 7 (.alt 1 (.alt 8 (.take 9 (.alt 10 (.alt 11 (.alt 12 (.take 13 (.alt 14 .done .stop)) .stop) .stop) .stop)) .stop) (.alt 8 (.take 9 (.alt 1 (.alt 10 (.alt 11 (.alt 12 (.take 13 (.alt 14 .done .stop)) .stop) .stop) .stop) (.alt 10 (.alt 1 (.alt 11 (.alt 12 (.take 13 (.alt 14 .done .stop)) .stop) .stop) (.alt 11 (.alt 1 (.alt 12 (.take 13 (.alt 14 .done .stop)) .stop) .stop) .stop)) .stop))) .stop)))) .stop))))))
def plGL26l_7 : Plan := (.take 0 (.take 1 (.take 2 (.take 3 (.take 4 (.take 5 (.take 6 (.take 7 (.take 8 (.alt 9 (.alt 10 (.alt 11 (.take 12 (.alt 13 .done .stop)) .stop) .stop) .stop))))))))))
def plGL26l_8 : Plan := (.take 0 (.take 1 (.take 2 (.take 3 (.take 4 (.take 5 (.take 6 (.take 7 (.alt 8 (.alt 9 (.alt 10 (.alt 11 (.take 12 (.alt 13 .done .stop)) .stop) .stop) .stop) .stop)))))))))
def plGL26l_9 : Plan := (.take 0 (.take 2 (.take 3 (.take 4 (.take 6 (.alt 1 (.alt 5 (.take 7 (.alt 8 (.alt 9 (.alt 10 (.alt 11 (.take 12 (.alt 13 .done .stop)) .stop) .stop) .stop) .stop)) .stop) (.alt 5 (.take 7 (.alt 1 (.alt 8 (.alt 9 (.alt 10 (.alt 11 (.take 12 (.alt 13 .done .stop)) .stop) .stop) .stop) .stop) (.alt 8 (.alt 1 (.alt 9 (.alt 10 (.alt 11 (.take 12 (.alt 13 .done .stop)) .stop) .stop) .stop) (.alt 9 (.alt 1 (.alt 10 (.alt 11 (.take 12 (.alt 13 .done .stop)) .stop) .stop) (.alt 10 (.alt 1 (.alt 11 (.take 12 (.alt 13 .done .stop)) .stop) .stop) .stop)) .stop)) .stop))) .stop)))))))
def papM (x : Scr) (p : Pap) : Bool := p.code == x.paper && p.variant == x.variant
def papF (ps : List Pap) (x : Scr) : Option Pap := ps.find? (papM x)
def papZ : Pap := ⟨0, 0, []⟩
theorem paperOf_ok (ps : List Pap) (x : Scr) (hl : ps.length ≤ 1000) : Good Try.prog TT false 54 [.lst 3 (ps.map encPap), .agg (encR x)] (· = .agg (encPap ((papF ps x).getD papZ))) := by
  have L : (ps.map encPap).length = ps.length := List.length_map ..
  refine good_of mixed tabOk Try.func54 rfl rfl Try.ntmps54 Try.results54 rfl rfl ?_
  (conv => whnf); (repeat' (first | (refine arith_i ⟨by omega, by omega⟩ ?_; conv => whnf) | (refine arith_u ⟨by omega, by omega⟩ ?_; conv => whnf) | (refine arith_8 ⟨by omega, by omega⟩ ?_; conv => whnf) | (refine need_i (by first | omega | (simp only [List.length_cons, List.length_nil]; omega) | (simp only [List.length_append, List.length_cons, List.length_nil, List.length_map, List.length_replicate, List.length_modify]; omega)) ?_; conv => whnf) | ((with_reducible first | refine branch_tt ?_ | refine branch_ff ?_); conv => whnf) | (with_reducible refine branch_not ?_) | ((with_reducible first | refine slc_e ?_ | refine callS_a ?_ | refine bld_a ?_ | refine own_e ?_ | refine mkmap_b ?_ | refine lnk_a ?_); conv => whnf) | (refine draw_i 18 plGL26l_0 (by decide +kernel) ?_; (conv => whnf); fail_if_success (guard_target =~ False)) | (refine draw_i 18 plGL26l_1 (by decide +kernel) ?_; (conv => whnf); fail_if_success (guard_target =~ False)) | (refine draw_i 18 plGL26l_2 (by decide +kernel) ?_; (conv => whnf); fail_if_success (guard_target =~ False)) | ((with_reducible refine And.intro ?_ ?_) <;> (conv => whnf)) | (with_reducible exact trivial) | ((with_reducible first | refine branch_d (fun hq => ?_) (fun hq => ?_) | refine branch_e (fun hq => ?_) (fun hq => ?_) | refine branch_n (fun hq => ?_) (fun hq => ?_) | refine branch_i (fun hq => ?_) (fun hq => ?_)) <;> (try (exfalso; omega)) <;> (conv => whnf))))
  refine loop_i (fun i : Nat => i ≤ ps.length ∧ ∀ j p, j < i → ps[j]? = some p → papM x p = false) (fun i => mkSt [(0, .lst 3 (ps.map encPap)), (3, .ptr 3 0), (4, .ptr 4 0), (5, .int .i64 i)] [(3, encR x), (4, [.int .i64 0, .int .i64 0, .nil])] false) (fun i => ps.length - i) 0 ⟨Nat.zero_le _, nofun⟩ (le_mk ⟨rfl, rfl, rfl, rfl, trivial⟩ ⟨rfl, rfl, trivial⟩ rfl) ?_
  rintro i ⟨hi, hno⟩
  rcases Nat.lt_or_ge i ps.length with hil | hil
  · obtain ⟨p, hp⟩ : ∃ p, ps[i]? = some p := ⟨_, List.getElem?_eq_getElem hil⟩
    have hstep : papM x p = false → ∀ j p', j < i + 1 → ps[j]? = some p' → papM x p' = false := fun h j p' hj hp' => by
      rcases Nat.lt_or_ge j i with g | g
      · exact hno j p' g hp'
      · obtain rfl : j = i := by omega
        rw [hp] at hp'; injection hp' with hp'; rw [← hp']; exact h
    (conv => whnf); (repeat' (first | (refine arith_i ⟨by omega, by omega⟩ ?_; conv => whnf) | (refine arith_u ⟨by omega, by omega⟩ ?_; conv => whnf) | (refine arith_8 ⟨by omega, by omega⟩ ?_; conv => whnf) | (refine need_i (by first | omega | (simp only [List.length_cons, List.length_nil]; omega) | (simp only [List.length_append, List.length_cons, List.length_nil, List.length_map, List.length_replicate, List.length_modify]; omega)) ?_; conv => whnf) | ((with_reducible first | refine branch_tt ?_ | refine branch_ff ?_); conv => whnf) | (with_reducible refine branch_not ?_) | ((refine idx_cs hp ?_); conv => whnf) | ((with_reducible first | refine slc_e ?_ | refine callS_a ?_ | refine bld_a ?_ | refine own_e ?_ | refine mkmap_b ?_ | refine lnk_a ?_); conv => whnf) | (refine draw_i 18 plGL26l_0 (by decide +kernel) ?_; (conv => whnf); fail_if_success (guard_target =~ False)) | (refine draw_i 18 plGL26l_1 (by decide +kernel) ?_; (conv => whnf); fail_if_success (guard_target =~ False)) | (refine draw_i 18 plGL26l_2 (by decide +kernel) ?_; (conv => whnf); fail_if_success (guard_target =~ False)) | ((with_reducible refine And.intro ?_ ?_) <;> (conv => whnf)) | (with_reducible exact trivial) | ((with_reducible first | refine branch_d (fun hq => ?_) (fun hq => ?_) | refine branch_e (fun hq => ?_) (fun hq => ?_) | refine branch_n (fun hq => ?_) (fun hq => ?_) | refine branch_i (fun hq => ?_) (fun hq => ?_)) <;> (try (exfalso; omega)) <;> (conv => whnf))))
    all_goals first
      | (have hm : papM x p = true := by unfold papM; rw [Bool.and_eq_true, beq_iff_eq, beq_iff_eq]; constructor <;> omega
         have hf : papF ps x = some p := by
           unfold papF
           rw [List.find?_eq_some_iff_getElem]
           refine ⟨hm, i, hil, (List.getElem?_eq_some_iff.1 hp).2, fun j hj => ?_⟩
           rw [hno j _ hj (List.getElem?_eq_getElem (by omega))]; rfl
         rw [hf]
         exact ret_a (cs' := encPap p) ⟨rc_p rfl, rc_p rfl, rc_p rfl, trivial⟩ rfl)
      | (have hm : papM x p = false := by unfold papM; rw [Bool.and_eq_false_iff, beq_eq_false_iff_ne, beq_eq_false_iff_ne]; omega
         exact ⟨i + 1, ⟨by omega, hstep hm⟩, le_mk ⟨rfl, rfl, rfl, rfl, trivial⟩ ⟨rfl, rfl, trivial⟩ rfl, by omega⟩)
  · (conv => whnf); (repeat' (first | (refine arith_i ⟨by omega, by omega⟩ ?_; conv => whnf) | (refine arith_u ⟨by omega, by omega⟩ ?_; conv => whnf) | (refine arith_8 ⟨by omega, by omega⟩ ?_; conv => whnf) | (refine need_i (by first | omega | (simp only [List.length_cons, List.length_nil]; omega) | (simp only [List.length_append, List.length_cons, List.length_nil, List.length_map, List.length_replicate, List.length_modify]; omega)) ?_; conv => whnf) | ((with_reducible first | refine branch_tt ?_ | refine branch_ff ?_); conv => whnf) | (with_reducible refine branch_not ?_) | ((with_reducible first | refine slc_e ?_ | refine callS_a ?_ | refine bld_a ?_ | refine own_e ?_ | refine mkmap_b ?_ | refine lnk_a ?_); conv => whnf) | (refine draw_i 18 plGL26l_0 (by decide +kernel) ?_; (conv => whnf); fail_if_success (guard_target =~ False)) | (refine draw_i 18 plGL26l_1 (by decide +kernel) ?_; (conv => whnf); fail_if_success (guard_target =~ False)) | (refine draw_i 18 plGL26l_2 (by decide +kernel) ?_; (conv => whnf); fail_if_success (guard_target =~ False)) | ((with_reducible refine And.intro ?_ ?_) <;> (conv => whnf)) | (with_reducible exact trivial) | ((with_reducible first | refine branch_d (fun hq => ?_) (fun hq => ?_) | refine branch_e (fun hq => ?_) (fun hq => ?_) | refine branch_n (fun hq => ?_) (fun hq => ?_) | refine branch_i (fun hq => ?_) (fun hq => ?_)) <;> (try (exfalso; omega)) <;> (conv => whnf))))
    have hf : papF ps x = none := by
      unfold papF
      rw [List.find?_eq_none]
      intro p hp
      obtain ⟨j, hj⟩ := List.getElem?_of_mem hp
      have := (List.getElem?_eq_some_iff.1 hj).1
      rw [hno j p (by omega) hj]; simp
    rw [hf]
    exact ret_a (cs' := encPap papZ) ⟨rc_p rfl, rc_p rfl, rc_n, trivial⟩ rfl
theorem monitor_ok : Good Try.prog TT true 29 [.tape] (fun r => ∃ a b c e : Int, r = .agg [.int .i64 a, .int .i64 b, .int .i64 c, .int .i64 e]) := by
  refine good_of mixed tabOk Try.func29 rfl rfl Try.ntmps29 Try.results29 rfl rfl ?_
  (conv => whnf); (repeat' (first | (refine arith_i ⟨by omega, by omega⟩ ?_; conv => whnf) | (refine arith_u ⟨by omega, by omega⟩ ?_; conv => whnf) | (refine arith_8 ⟨by omega, by omega⟩ ?_; conv => whnf) | (refine need_i (by first | omega | (simp only [List.length_cons, List.length_nil]; omega) | (simp only [List.length_append, List.length_cons, List.length_nil, List.length_map, List.length_replicate, List.length_modify]; omega)) ?_; conv => whnf) | ((with_reducible first | refine branch_tt ?_ | refine branch_ff ?_); conv => whnf) | (with_reducible refine branch_not ?_) | (((refine call_i (next_ok _ (by omega)) fun r hr => ?_; obtain ⟨x, rfl, hx0, hx⟩ := hr)); conv => whnf) | ((with_reducible first | refine slc_e ?_ | refine callS_a ?_ | refine bld_a ?_ | refine own_e ?_ | refine mkmap_b ?_ | refine lnk_a ?_); conv => whnf) | ((with_reducible first | refine branch_d (fun hq => ?_) (fun hq => ?_) | refine branch_e (fun hq => ?_) (fun hq => ?_) | refine branch_n (fun hq => ?_) (fun hq => ?_) | refine branch_i (fun hq => ?_) (fun hq => ?_)) <;> (try (exfalso; omega)) <;> (conv => whnf))))
  exact ret_a (cs' := [_, _, _, _]) ⟨rc_p rfl, rc_p rfl, rc_p rfl, rc_p rfl, trivial⟩ ⟨_, _, _, _, rfl⟩
def mksOk (p : Pap) (ms : List Int) : Prop := ms.length = p.parts.length ∧ ∀ (i : Nat) (m : Int) (q : Prt), ms[i]? = some m → p.parts[i]? = some q → 0 ≤ m ∧ m ≤ q.max
theorem seed_ok (ps : List Pap) (x : Scr) (hl : ps.length ≤ 1000) (hp : ∀ (k : Nat) (p : Pap), ps[k]? = some p → OkPap p) (q : Pap) (hq : papF ps x = some q) : Good Try.prog TT true 30 [.tape, .lst 3 (ps.map encPap), .agg (encR x)] (fun r => ∃ ms, r = .agg [.int .i64 x.number, ints ms] ∧ mksOk q ms) := by
  have hqo : OkPap q := by
    obtain ⟨k, hk⟩ := List.getElem?_of_mem (List.mem_of_find?_eq_some hq)
    exact hp k q hk
  obtain ⟨hc0, hc1, hp1, hp3, -, hmax⟩ := hqo
  have hP := paperOf_ok ps x hl
  rw [hq] at hP
  have Lp : (q.parts.map encPrt).length = q.parts.length := List.length_map ..
  refine good_of mixed tabOk Try.func30 rfl rfl Try.ntmps30 Try.results30 rfl rfl ?_
  (conv => whnf); (repeat' (first | (refine arith_i ⟨by omega, by omega⟩ ?_; conv => whnf) | (refine arith_u ⟨by omega, by omega⟩ ?_; conv => whnf) | (refine arith_8 ⟨by omega, by omega⟩ ?_; conv => whnf) | (refine need_i (by first | omega | (simp only [List.length_cons, List.length_nil]; omega) | (simp only [List.length_append, List.length_cons, List.length_nil, List.length_map, List.length_replicate, List.length_modify]; omega)) ?_; conv => whnf) | ((with_reducible first | refine branch_tt ?_ | refine branch_ff ?_); conv => whnf) | (with_reducible refine branch_not ?_) | ((refine call_e hP ?_); conv => whnf) | ((with_reducible first | refine slc_e ?_ | refine callS_a ?_ | refine bld_a ?_ | refine own_e ?_ | refine mkmap_b ?_ | refine lnk_a ?_); conv => whnf) | (refine draw_i 14 plGL26l_3 (by decide +kernel) ?_; (conv => whnf); fail_if_success (guard_target =~ False)) | (refine draw_i 14 plGL26l_4 (by decide +kernel) ?_; (conv => whnf); fail_if_success (guard_target =~ False)) | (refine draw_i 14 plGL26l_5 (by decide +kernel) ?_; (conv => whnf); fail_if_success (guard_target =~ False)) | ((with_reducible refine And.intro ?_ ?_) <;> (conv => whnf)) | (with_reducible exact trivial) | ((with_reducible first | refine branch_d (fun hq => ?_) (fun hq => ?_) | refine branch_e (fun hq => ?_) (fun hq => ?_) | refine branch_n (fun hq => ?_) (fun hq => ?_) | refine branch_i (fun hq => ?_) (fun hq => ?_)) <;> (try (exfalso; omega)) <;> (conv => whnf))))
  refine loop_i (fun ms : List Int => ms.length ≤ q.parts.length ∧ ∀ (i : Nat) (m : Int) (p : Prt), ms[i]? = some m → q.parts[i]? = some p → 0 ≤ m ∧ m ≤ p.max) (fun ms => mkSt [(0, .tape), (6, .ptr 6 0), (7, .ptr 7 0), (8, .ptr 8 0), (9, .int .i64 ms.length)] [(5, encR x), (6, [.int .i64 0, .nil]), (7, [.int .i64 x.number, .own 200 3 1 (ms.map encI)]), (8, encPap q)] true) (fun ms => q.parts.length - ms.length) [] ⟨Nat.zero_le _, nofun⟩ (Le.trans (le_adoptBox 7 1 200 3 1 rfl rfl) (le_mk ⟨rfl, rfl, rfl, rfl, rfl, trivial⟩ ⟨rfl, rfl, rfl, rfl, trivial⟩ rfl)) ?_
  rintro ms ⟨hml, hmo⟩
  have Lm : (ms.map encI).length = ms.length := List.length_map ..
  rcases Nat.lt_or_ge ms.length q.parts.length with hil | hil
  · obtain ⟨t, ht⟩ : ∃ t, q.parts[ms.length]? = some t := ⟨_, List.getElem?_eq_getElem hil⟩
    have htm := hmax t (List.mem_of_getElem? ht)
    (conv => whnf); (repeat' (first | (refine arith_i ⟨by omega, by omega⟩ ?_; conv => whnf) | (refine arith_u ⟨by omega, by omega⟩ ?_; conv => whnf) | (refine arith_8 ⟨by omega, by omega⟩ ?_; conv => whnf) | (refine need_i (by first | omega | (simp only [List.length_cons, List.length_nil]; omega) | (simp only [List.length_append, List.length_cons, List.length_nil, List.length_map, List.length_replicate, List.length_modify]; omega)) ?_; conv => whnf) | ((with_reducible first | refine branch_tt ?_ | refine branch_ff ?_); conv => whnf) | (with_reducible refine branch_not ?_) | ((refine idx_cs ht ?_); conv => whnf) | (((refine call_i (next_ok _ (by omega)) fun r hr => ?_; obtain ⟨y, rfl, -, hy⟩ := hr; replace hy := hy (by omega))); conv => whnf) | ((with_reducible first | refine slc_e ?_ | refine callS_a ?_ | refine bld_a ?_ | refine own_e ?_ | refine mkmap_b ?_ | refine lnk_a ?_); conv => whnf) | (refine draw_i 14 plGL26l_3 (by decide +kernel) ?_; (conv => whnf); fail_if_success (guard_target =~ False)) | (refine draw_i 14 plGL26l_4 (by decide +kernel) ?_; (conv => whnf); fail_if_success (guard_target =~ False)) | (refine draw_i 14 plGL26l_5 (by decide +kernel) ?_; (conv => whnf); fail_if_success (guard_target =~ False)) | ((with_reducible refine And.intro ?_ ?_) <;> (conv => whnf)) | (with_reducible exact trivial) | ((with_reducible first | refine branch_d (fun hq => ?_) (fun hq => ?_) | refine branch_e (fun hq => ?_) (fun hq => ?_) | refine branch_n (fun hq => ?_) (fun hq => ?_) | refine branch_i (fun hq => ?_) (fun hq => ?_)) <;> (try (exfalso; omega)) <;> (conv => whnf))))
    refine ⟨ms ++ [y], ⟨by simp; omega, fun i m p hm hp => ?_⟩, le_mk ⟨rfl, rfl, rfl, rfl, int_eq (by simp), trivial⟩ ⟨rfl, rfl, ?_, rfl, trivial⟩ rfl, by simp; omega⟩
    · rcases snoc_at hm with ⟨_, h'⟩ | ⟨hk, rfl⟩
      · exact hmo i m p h' hp
      · subst hk; rw [ht] at hp; injection hp with hp; rw [← hp]; omega
    · simp only [List.map_append, List.map_cons, List.map_nil]
      rfl
  · (conv => whnf); (repeat' (first | (refine arith_i ⟨by omega, by omega⟩ ?_; conv => whnf) | (refine arith_u ⟨by omega, by omega⟩ ?_; conv => whnf) | (refine arith_8 ⟨by omega, by omega⟩ ?_; conv => whnf) | (refine need_i (by first | omega | (simp only [List.length_cons, List.length_nil]; omega) | (simp only [List.length_append, List.length_cons, List.length_nil, List.length_map, List.length_replicate, List.length_modify]; omega)) ?_; conv => whnf) | ((with_reducible first | refine branch_tt ?_ | refine branch_ff ?_); conv => whnf) | (with_reducible refine branch_not ?_) | ((with_reducible first | refine slc_e ?_ | refine callS_a ?_ | refine bld_a ?_ | refine own_e ?_ | refine mkmap_b ?_ | refine lnk_a ?_); conv => whnf) | (refine draw_i 14 plGL26l_3 (by decide +kernel) ?_; (conv => whnf); fail_if_success (guard_target =~ False)) | (refine draw_i 14 plGL26l_4 (by decide +kernel) ?_; (conv => whnf); fail_if_success (guard_target =~ False)) | (refine draw_i 14 plGL26l_5 (by decide +kernel) ?_; (conv => whnf); fail_if_success (guard_target =~ False)) | ((with_reducible refine And.intro ?_ ?_) <;> (conv => whnf)) | (with_reducible exact trivial) | ((with_reducible first | refine branch_d (fun hq => ?_) (fun hq => ?_) | refine branch_e (fun hq => ?_) (fun hq => ?_) | refine branch_n (fun hq => ?_) (fun hq => ?_) | refine branch_i (fun hq => ?_) (fun hq => ?_)) <;> (try (exfalso; omega)) <;> (conv => whnf))))
    exact ret_a (cs' := [.int .i64 x.number, ints ms]) ⟨rc_p rfl, rc_o, trivial⟩ ⟨ms, rfl, by omega, hmo⟩
/-- A seed: its script is among the scripts, and the marks fit its paper. -/
def SedOk (ps : List Pap) (s : List Scr) (y : Sed) : Prop := ∃ (k : Nat) (x : Scr) (q : Pap), s[k]? = some x ∧ y.script = x.number ∧ papF ps x = some q ∧ mksOk q y.marks
theorem pap_found {ps : List Pap} {x : Scr} (h : PgS ps x) : ∃ q, papF ps x = some q := by
  obtain ⟨-, p, hp, h1, h2⟩ := h
  cases hf : papF ps x with
  | some q => exact ⟨q, rfl⟩
  | none =>
    have := List.find?_eq_none.1 hf p hp
    simp [papM, h1, h2] at this
structure StpOk (l : List Mrk) (s : List Scr) (ps : List Pap) (sd : List Sed) : Prop where
  mks : MksOk l
  l2 : 2 ≤ l.length
  l5 : l.length ≤ 5
  mrk : ∀ (k : Nat) (m : Mrk), l[k]? = some m → m.id ≤ 15 ∧ m.cap ≤ 6 ∧ ∀ x ∈ m.papers, x = 0 ∨ x = 1
  scs : ScsOk s
  s8 : s.length ≤ 8
  pgs : ∀ (k : Nat) (x : Scr), s[k]? = some x → PgS ps x
  p3 : ps.length ≤ 3
  pap : ∀ (k : Nat) (p : Pap), ps[k]? = some p → OkPap p
  sdl : sd.length ≤ s.length
  sds : ∀ y ∈ sd, SedOk ps s y
def stpV (l : List Mrk) (s : List Scr) (ps : List Pap) (es : List (List AV)) (sd : List Sed) (a b c e : Int) : List AV := [mrksV l, scrsV s, .lst 3 (ps.map encPap), .lst 2 es, sedsV sd, .int .i64 a, .int .i64 b, .int .i64 c, .int .i64 e]
def SetupR (r : AV) : Prop := ∃ l s ps es sd a b c e, r = .agg (stpV l s ps es sd a b c e) ∧ StpOk l s ps sd
set_option maxHeartbeats 4000000 in
theorem setup_ok : Good Try.prog TT true 7 [.tape] SetupR := by
  refine good_of mixed tabOk Try.func7 rfl rfl Try.ntmps7 Try.results7 rfl rfl ?_
  (conv => whnf); (repeat' (first | (refine arith_i ⟨by omega, by omega⟩ ?_; conv => whnf) | (refine arith_u ⟨by omega, by omega⟩ ?_; conv => whnf) | (refine arith_8 ⟨by omega, by omega⟩ ?_; conv => whnf) | (refine need_i (by first | omega | (simp only [List.length_cons, List.length_nil]; omega) | (simp only [List.length_append, List.length_cons, List.length_nil, List.length_map, List.length_replicate, List.length_modify]; omega)) ?_; conv => whnf) | ((with_reducible first | refine branch_tt ?_ | refine branch_ff ?_); conv => whnf) | (with_reducible refine branch_not ?_) | (((refine call_i markers_ok fun r hr => ?_; obtain ⟨l, rfl, hl, hl2, hl5, hid⟩ := hr)); conv => whnf) | (((refine call_i papers_ok fun r hr => ?_; obtain ⟨ps, es, rfl, hp3, hpo⟩ := hr)); conv => whnf) | (((refine call_i (scripts_ok ps hp3 hpo) fun r hr => ?_; obtain ⟨s, rfl, hs8, hs, hpg⟩ := hr; have LS : (s.map encR).length = s.length := List.length_map ..; have LL : (l.map encM).length = l.length := List.length_map ..)); conv => whnf) | (((refine call_i monitor_ok fun r hr => ?_; obtain ⟨m1, m2, m3, m4, rfl⟩ := hr)); conv => whnf) | ((with_reducible first | refine slc_e ?_ | refine callS_a ?_ | refine bld_a ?_ | refine own_e ?_ | refine mkmap_b ?_ | refine lnk_a ?_); conv => whnf) | (refine draw_i 13 plGL26l_7 (by decide +kernel) ?_; (conv => whnf); fail_if_success (guard_target =~ False)) | (refine draw_i 13 plGL26l_8 (by decide +kernel) ?_; (conv => whnf); fail_if_success (guard_target =~ False)) | (refine draw_i 13 plGL26l_9 (by decide +kernel) ?_; (conv => whnf); fail_if_success (guard_target =~ False)) | ((with_reducible refine And.intro ?_ ?_) <;> (conv => whnf)) | (with_reducible exact trivial) | ((with_reducible first | refine branch_d (fun hq => ?_) (fun hq => ?_) | refine branch_e (fun hq => ?_) (fun hq => ?_) | refine branch_n (fun hq => ?_) (fun hq => ?_) | refine branch_i (fun hq => ?_) (fun hq => ?_)) <;> (try (exfalso; omega)) <;> (conv => whnf))))
  refine loop_i2 (fun (i : Nat) (sd : List Sed) => i ≤ s.length ∧ sd.length ≤ i ∧ ∀ y ∈ sd, SedOk ps s y) (fun i sd => mkSt [(0, .tape), (2, .ptr 2 0), (3, .lst 3 (ps.map encPap)), (5, .ptr 5 0), (6, .int .i64 i)] [(2, [.nil, .nil, .nil, .nil, .nil, .int .i64 0, .int .i64 0, .int .i64 0, .int .i64 0]), (5, [.own 13 67 5 (l.map encM), .own 16 48 7 (s.map encR), .lst 3 (ps.map encPap), .lst 2 es, .own 200 41 2 (sd.map encSd), .int .i64 m1, .int .i64 m2, .int .i64 m3, .int .i64 m4])] true) (fun i _ => s.length - i) 0 [] ⟨Nat.zero_le _, Nat.le_refl _, nofun⟩ (Le.trans (le_adoptBox 5 4 200 41 2 rfl rfl) (le_mk ⟨rfl, rfl, rfl, rfl, rfl, trivial⟩ ⟨rfl, rfl, trivial⟩ rfl)) ?_
  rintro i sd ⟨hi, hsl, hsd⟩
  have Ld : (sd.map encSd).length = sd.length := List.length_map ..
  rcases Nat.lt_or_ge i s.length with hil | hil
  · obtain ⟨x, hx⟩ : ∃ x, s[i]? = some x := ⟨_, List.getElem?_eq_getElem hil⟩
    obtain ⟨q, hpf⟩ := pap_found (hpg i x hx)
    (conv => whnf); (repeat' (first | (refine arith_i ⟨by omega, by omega⟩ ?_; conv => whnf) | (refine arith_u ⟨by omega, by omega⟩ ?_; conv => whnf) | (refine arith_8 ⟨by omega, by omega⟩ ?_; conv => whnf) | (refine need_i (by first | omega | (simp only [List.length_cons, List.length_nil]; omega) | (simp only [List.length_append, List.length_cons, List.length_nil, List.length_map, List.length_replicate, List.length_modify]; omega)) ?_; conv => whnf) | ((with_reducible first | refine branch_tt ?_ | refine branch_ff ?_); conv => whnf) | (with_reducible refine branch_not ?_) | ((refine idx_cs hx ?_); conv => whnf) | (((refine call_i (dbool_ok 3 (by omega)) fun r hr => ?_; obtain ⟨bb, rfl⟩ := hr; cases bb <;> (conv => whnf))); conv => whnf) | (((refine call_i (seed_ok ps x (by omega) hpo q hpf) fun r hr => ?_; obtain ⟨ms, rfl, hms⟩ := hr)); conv => whnf) | ((with_reducible first | refine slc_e ?_ | refine callS_a ?_ | refine bld_a ?_ | refine own_e ?_ | refine mkmap_b ?_ | refine lnk_a ?_); conv => whnf) | (refine draw_i 13 plGL26l_8 (by decide +kernel) ?_; (conv => whnf); fail_if_success (guard_target =~ False)) | (refine draw_i 13 plGL26l_9 (by decide +kernel) ?_; (conv => whnf); fail_if_success (guard_target =~ False)) | (refine draw_i 13 plGL26l_7 (by decide +kernel) ?_; (conv => whnf); fail_if_success (guard_target =~ False)) | ((with_reducible refine And.intro ?_ ?_) <;> (conv => whnf)) | (with_reducible exact trivial) | ((with_reducible first | refine branch_d (fun hq => ?_) (fun hq => ?_) | refine branch_e (fun hq => ?_) (fun hq => ?_) | refine branch_n (fun hq => ?_) (fun hq => ?_) | refine branch_i (fun hq => ?_) (fun hq => ?_)) <;> (try (exfalso; omega)) <;> (conv => whnf))))
    · refine ⟨i + 1, sd, ⟨by omega, by omega, hsd⟩, (le_mk (by repeat' (first | exact trivial | rfl | apply And.intro)) (by repeat' (first | exact trivial | rfl | apply And.intro)) rfl), by omega⟩
    · have e1 : (sd ++ [Sed.mk x.number ms]).map encSd = sd.map encSd ++ [[.int .i64 x.number, ints ms]] := by rw [List.map_append]; rfl
      refine ⟨i + 1, sd ++ [⟨x.number, ms⟩], ⟨by omega, by simp; omega, fun y hy => ?_⟩, by rw [e1]; exact (le_mk (by repeat' (first | exact trivial | rfl | apply And.intro)) (by repeat' (first | exact trivial | rfl | apply And.intro)) rfl), by omega⟩
      rcases List.mem_append.1 hy with h | h
      · exact hsd y h
      · rw [List.mem_singleton] at h; subst h
        exact ⟨i, x, q, hx, rfl, hpf, hms⟩
  · (conv => whnf); (repeat' (first | (refine arith_i ⟨by omega, by omega⟩ ?_; conv => whnf) | (refine arith_u ⟨by omega, by omega⟩ ?_; conv => whnf) | (refine arith_8 ⟨by omega, by omega⟩ ?_; conv => whnf) | (refine need_i (by first | omega | (simp only [List.length_cons, List.length_nil]; omega) | (simp only [List.length_append, List.length_cons, List.length_nil, List.length_map, List.length_replicate, List.length_modify]; omega)) ?_; conv => whnf) | ((with_reducible first | refine branch_tt ?_ | refine branch_ff ?_); conv => whnf) | (with_reducible refine branch_not ?_) | ((with_reducible first | refine slc_e ?_ | refine callS_a ?_ | refine bld_a ?_ | refine own_e ?_ | refine mkmap_b ?_ | refine lnk_a ?_); conv => whnf) | (refine draw_i 13 plGL26l_7 (by decide +kernel) ?_; (conv => whnf); fail_if_success (guard_target =~ False)) | (refine draw_i 13 plGL26l_8 (by decide +kernel) ?_; (conv => whnf); fail_if_success (guard_target =~ False)) | (refine draw_i 13 plGL26l_9 (by decide +kernel) ?_; (conv => whnf); fail_if_success (guard_target =~ False)) | ((with_reducible refine And.intro ?_ ?_) <;> (conv => whnf)) | (with_reducible exact trivial) | ((with_reducible first | refine branch_d (fun hq => ?_) (fun hq => ?_) | refine branch_e (fun hq => ?_) (fun hq => ?_) | refine branch_n (fun hq => ?_) (fun hq => ?_) | refine branch_i (fun hq => ?_) (fun hq => ?_)) <;> (try (exfalso; omega)) <;> (conv => whnf))))
    exact ret_a (cs' := stpV l s ps es sd m1 m2 m3 m4) ⟨rc_o, rc_o, rc_p rfl, rc_p rfl, rc_o, rc_p rfl, rc_p rfl, rc_p rfl, rc_p rfl, trivial⟩ ⟨l, s, ps, es, sd, m1, m2, m3, m4, rfl, hl, hl2, hl5, hid, hs, hs8, hpg, hp3, hpo, by omega, hsd⟩
end Go.Proofs.Ythgnomniboindaa
end

/- Layer 26: Common of the reference. -/
section
namespace Go.Proofs.Ythgnomniboindaa
set_option linter.unusedVariables false
set_option linter.unusedSimpArgs false
set_option linter.unnecessarySimpa false
set_option linter.unusedSectionVars false
set_option maxRecDepth 10000
open Go.RowKit
theorem cntI_next {i : Nat} {k : Int} (hk : 1 ≤ k) : (Int.tmod i k = 0 → cntI (i + 1) k = cntI i k + 1 ∧ (cntI i k : Int) * k = i) ∧ (Int.tmod i k ≠ 0 → cntI (i + 1) k = cntI i k) := by
  have hlt : ∀ (n j : Nat), j < cntI n k ↔ (j : Int) * k < n := fun n j => cntI_lt hk
  have h1 : ¬ (cntI i k : Int) * k < i := fun h => Nat.lt_irrefl _ ((hlt i (cntI i k)).2 h)
  have hmono : cntI i k ≤ cntI (i + 1) k := Nat.le_of_not_lt fun h => by
    have := (hlt i (cntI (i + 1) k)).1 h
    exact Nat.lt_irrefl _ ((hlt (i + 1) (cntI (i + 1) k)).2 (by omega))
  constructor
  · intro h
    obtain ⟨t, ht⟩ := Int.dvd_of_tmod_eq_zero h
    have ht0 : 0 ≤ t := Int.le_of_not_gt fun hn => by
      have := Int.mul_le_mul_of_nonneg_left (show t ≤ -1 by omega) (show 0 ≤ k by omega)
      omega
    obtain ⟨T, rfl⟩ : ∃ T : Nat, t = T := ⟨t.toNat, by omega⟩
    rw [Int.mul_comm] at ht
    have e : cntI i k = T := by
      refine Nat.le_antisymm (Nat.le_of_not_lt fun hn => ?_) (Nat.le_of_not_lt fun hn => ?_)
      · have := (hlt i T).1 hn; omega
      · have h2 := Int.mul_le_mul_of_nonneg_right (show ((cntI i k : Nat) : Int) + 1 ≤ T by omega) (show 0 ≤ k by omega)
        rw [Int.add_mul] at h2
        omega
    have e2 : (cntI i k : Int) * k = i := by rw [e]; omega
    refine ⟨Nat.le_antisymm (Nat.le_of_not_lt fun hn => ?_) ?_, e2⟩
    · have h3 := (hlt (i + 1) (cntI i k + 1)).1 hn
      rw [Int.natCast_add, Int.add_mul] at h3
      omega
    · exact (hlt (i + 1) (cntI i k)).2 (by omega)
  · intro h
    refine Nat.le_antisymm (Nat.le_of_not_lt fun hn => ?_) hmono
    have h3 := (hlt (i + 1) (cntI i k)).1 hn
    have h4 : (cntI i k : Int) * k = i := by omega
    exact h (by rw [← h4]; exact Int.mul_tmod_left ..)
def commP (s : List Scr) (k : Int) (i : Nat) : List Int := (mulF k (cntI i k)).map fun j => numF s j.toNat
set_option maxHeartbeats 4000000 in
theorem rCommon_ok (s : List Scr) (k : Int) (hs : ScsOk s) : Good Try.prog TT false 17 [scrsV s, .int .i64 k] (· = .own 0 3 1 ((commF s k).map encI)) := by
  have LS : (s.map encR).length = s.length := List.length_map ..
  have h60 := hs.len
  unfold commF idxsF
  by_cases hk : k < 1
  · rw [if_pos hk]
    refine good_of mixed tabOk Try.func17 rfl rfl Try.ntmps17 Try.results17 rfl rfl ?_
    (conv => whnf); (repeat' (first | (refine arith_i ⟨by omega, by omega⟩ ?_; conv => whnf) | (refine arith_u ⟨by omega, by omega⟩ ?_; conv => whnf) | (refine arith_8 ⟨by omega, by omega⟩ ?_; conv => whnf) | (refine need_i (by first | omega | (simp only [List.length_cons, List.length_nil]; omega) | (simp only [List.length_append, List.length_cons, List.length_nil, List.length_map, List.length_replicate, List.length_modify]; omega)) ?_; conv => whnf) | ((with_reducible first | refine branch_tt ?_ | refine branch_ff ?_); conv => whnf) | (with_reducible refine branch_not ?_) | ((with_reducible first | refine slc_e ?_ | refine callS_a ?_ | refine bld_a ?_ | refine own_e ?_ | refine mkmap_b ?_ | refine lnk_a ?_); conv => whnf) | ((with_reducible first | refine branch_d (fun hq => ?_) (fun hq => ?_) | refine branch_e (fun hq => ?_) (fun hq => ?_) | refine branch_n (fun hq => ?_) (fun hq => ?_) | refine branch_i (fun hq => ?_) (fun hq => ?_)) <;> (try (exfalso; omega)) <;> (conv => whnf))))
    exact ret_n rfl
  · rw [if_neg hk]
    refine good_of mixed tabOk Try.func17 rfl rfl Try.ntmps17 Try.results17 rfl rfl ?_
    (conv => whnf); (repeat' (first | (refine arith_i ⟨by omega, by omega⟩ ?_; conv => whnf) | (refine arith_u ⟨by omega, by omega⟩ ?_; conv => whnf) | (refine arith_8 ⟨by omega, by omega⟩ ?_; conv => whnf) | (refine need_i (by first | omega | (simp only [List.length_cons, List.length_nil]; omega) | (simp only [List.length_append, List.length_cons, List.length_nil, List.length_map, List.length_replicate, List.length_modify]; omega)) ?_; conv => whnf) | ((with_reducible first | refine branch_tt ?_ | refine branch_ff ?_); conv => whnf) | (with_reducible refine branch_not ?_) | ((with_reducible first | refine slc_e ?_ | refine callS_a ?_ | refine bld_a ?_ | refine own_e ?_ | refine mkmap_b ?_ | refine lnk_a ?_); conv => whnf) | ((with_reducible first | refine branch_d (fun hq => ?_) (fun hq => ?_) | refine branch_e (fun hq => ?_) (fun hq => ?_) | refine branch_n (fun hq => ?_) (fun hq => ?_) | refine branch_i (fun hq => ?_) (fun hq => ?_)) <;> (try (exfalso; omega)) <;> (conv => whnf))))
    have hk1 : 1 ≤ k := by omega
    have hz : commP s k 0 = [] := by
      have := cntI_le (n := 0) hk1
      unfold commP; rw [show cntI 0 k = 0 by omega]; rfl
    refine loop_i (fun i : Nat => i ≤ s.length) (fun i => mkSt [(0, scrsV s), (1, .int .i64 k), (5, .own 200 3 1 ((commP s k i).map encI)), (6, .int .i64 i)] [] false) (fun i => s.length - i) 0 (Nat.zero_le _) (Le.trans (le_adopt 5 200 3 1 rfl) (le_mk ⟨rfl, rfl, by rw [hz]; rfl, rfl, trivial⟩ trivial rfl)) ?_
    intro i hi
    have L : ((commP s k i).map encI).length = cntI i k := by rw [List.length_map, commP, List.length_map, mulF_len]
    have hcl := cntI_le (n := i) hk1
    have hnx := cntI_next (i := i) hk1
    rcases Nat.lt_or_ge i s.length with hil | hil
    · obtain ⟨x, hx⟩ : ∃ x, s[i]? = some x := ⟨_, List.getElem?_eq_getElem hil⟩
      by_cases hm : Int.tmod i k = 0
      · obtain ⟨h1, h2⟩ := hnx.1 hm
        have e1 : (commP s k (i + 1)).map encI = (commP s k i).map encI ++ [[.int .i64 x.number]] := by
          unfold commP
          rw [h1, mulF_next, h2, List.map_append, List.map_append, ← numF_at hx]; rfl
        (conv => whnf); (repeat' (first | (refine arith_i ⟨by omega, by omega⟩ ?_; conv => whnf) | (refine arith_u ⟨by omega, by omega⟩ ?_; conv => whnf) | (refine arith_8 ⟨by omega, by omega⟩ ?_; conv => whnf) | (refine need_i (by first | omega | (simp only [List.length_cons, List.length_nil]; omega) | (simp only [List.length_append, List.length_cons, List.length_nil, List.length_map, List.length_replicate, List.length_modify]; omega)) ?_; conv => whnf) | ((with_reducible first | refine branch_tt ?_ | refine branch_ff ?_); conv => whnf) | (with_reducible refine branch_not ?_) | ((refine idx_cs hx ?_); conv => whnf) | ((with_reducible first | refine slc_e ?_ | refine callS_a ?_ | refine bld_a ?_ | refine own_e ?_ | refine mkmap_b ?_ | refine lnk_a ?_); conv => whnf) | ((with_reducible first | refine branch_d (fun hq => ?_) (fun hq => ?_) | refine branch_e (fun hq => ?_) (fun hq => ?_) | refine branch_n (fun hq => ?_) (fun hq => ?_) | refine branch_i (fun hq => ?_) (fun hq => ?_)) <;> (try (exfalso; omega)) <;> (conv => whnf))))
        all_goals first | exact ⟨i + 1, by omega, by rw [e1]; exact (le_mk (by repeat' (first | exact trivial | rfl | apply And.intro)) (by repeat' (first | exact trivial | rfl | apply And.intro)) rfl), by omega⟩
      · have e1 : commP s k (i + 1) = commP s k i := by unfold commP; rw [hnx.2 hm]
        (conv => whnf); (repeat' (first | (refine arith_i ⟨by omega, by omega⟩ ?_; conv => whnf) | (refine arith_u ⟨by omega, by omega⟩ ?_; conv => whnf) | (refine arith_8 ⟨by omega, by omega⟩ ?_; conv => whnf) | (refine need_i (by first | omega | (simp only [List.length_cons, List.length_nil]; omega) | (simp only [List.length_append, List.length_cons, List.length_nil, List.length_map, List.length_replicate, List.length_modify]; omega)) ?_; conv => whnf) | ((with_reducible first | refine branch_tt ?_ | refine branch_ff ?_); conv => whnf) | (with_reducible refine branch_not ?_) | ((refine idx_cs hx ?_); conv => whnf) | ((with_reducible first | refine slc_e ?_ | refine callS_a ?_ | refine bld_a ?_ | refine own_e ?_ | refine mkmap_b ?_ | refine lnk_a ?_); conv => whnf) | ((with_reducible first | refine branch_d (fun hq => ?_) (fun hq => ?_) | refine branch_e (fun hq => ?_) (fun hq => ?_) | refine branch_n (fun hq => ?_) (fun hq => ?_) | refine branch_i (fun hq => ?_) (fun hq => ?_)) <;> (try (exfalso; omega)) <;> (conv => whnf))))
        all_goals first | exact ⟨i + 1, by omega, by rw [e1]; exact (le_mk (by repeat' (first | exact trivial | rfl | apply And.intro)) (by repeat' (first | exact trivial | rfl | apply And.intro)) rfl), by omega⟩
    · obtain rfl : i = s.length := by omega
      (conv => whnf); (repeat' (first | (refine arith_i ⟨by omega, by omega⟩ ?_; conv => whnf) | (refine arith_u ⟨by omega, by omega⟩ ?_; conv => whnf) | (refine arith_8 ⟨by omega, by omega⟩ ?_; conv => whnf) | (refine need_i (by first | omega | (simp only [List.length_cons, List.length_nil]; omega) | (simp only [List.length_append, List.length_cons, List.length_nil, List.length_map, List.length_replicate, List.length_modify]; omega)) ?_; conv => whnf) | ((with_reducible first | refine branch_tt ?_ | refine branch_ff ?_); conv => whnf) | (with_reducible refine branch_not ?_) | ((with_reducible first | refine slc_e ?_ | refine callS_a ?_ | refine bld_a ?_ | refine own_e ?_ | refine mkmap_b ?_ | refine lnk_a ?_); conv => whnf) | ((with_reducible first | refine branch_d (fun hq => ?_) (fun hq => ?_) | refine branch_e (fun hq => ?_) (fun hq => ?_) | refine branch_n (fun hq => ?_) (fun hq => ?_) | refine branch_i (fun hq => ?_) (fun hq => ?_)) <;> (try (exfalso; omega)) <;> (conv => whnf))))
      exact ret_o rfl
end Go.Proofs.Ythgnomniboindaa
end

/- Slices of the function's own are sorted or turned round: the shelf's contracts in the interpreter's words. -/
section
namespace Go.Proofs.Ythgnomniboindaa
set_option linter.unusedVariables false
set_option linter.unusedSimpArgs false
set_option linter.unnecessarySimpa false
set_option linter.unusedSectionVars false
set_option maxRecDepth 10000
open Go.RowKit Go.Shelf Go.Sort
section
variable {P : Program} {tt : Nat} {b : Bool} {f : Nat}
theorem ints_css {w : World} {X : Nat → Prop} : ∀ {xs : List Int} {css : List (List Value)}, All2 (fun ds cs => ds.length = 1 ∧ All2 (RepV w X) ds cs) (xs.map encI) css → css = xs.map fun x => [Value.int .i64 x]
  | [], [], _ => rfl
  | x :: xs, c :: css, h => by
    obtain ⟨h1, h2⟩ := h
    have e := ints_css h2
    obtain ⟨u, us, rfl, h3, h4⟩ := h1.2.cons_inv
    obtain rfl := h4.nil_inv
    cases h3
    rw [e]; rfl
  | [], _ :: _, h => h.elim
  | _ :: _, [], h => h.elim
theorem css_ints {w : World} {X : Nat → Prop} : ∀ {xs : List Int}, All2 (fun ds cs => ds.length = 1 ∧ All2 (RepV w X) ds cs) (xs.map encI) (xs.map fun x => [Value.int .i64 x])
  | [] => trivial
  | x :: xs => ⟨⟨rfl, .int _ _, trivial⟩, css_ints⟩
theorem flat1 {α β : Type} (g : α → β) : ∀ xs : List α, (xs.map fun x => [g x]).flatten = xs.map g
  | [] => rfl
  | x :: xs => by simp [flat1 g xs]
theorem put_take (cur : Array Value) (ys : List Int) (h : ys.length ≤ cur.size) : (cur.toList.take (0 * 1) ++ (ys.map fun x => [Value.int .i64 x]).flatten ++ cur.toList.drop (0 * 1 + (ys.map fun x => [Value.int .i64 x]).flatten.length)).toArray = putCells (Value.int .i64) 0 ys.toArray cur := by
  apply Array.ext'
  simp only [flat1, Nat.zero_mul, List.take_zero, List.nil_append, Nat.zero_add, List.length_map]
  apply List.ext_getElem?
  intro j
  refine Eq.trans ?_ Array.getElem?_toList.symm
  show (ys.map (Value.int .i64) ++ cur.toList.drop ys.length)[j]? = _
  by_cases hj : j < ys.length
  · rw [List.getElem?_append_left (by simpa using hj)]
    simp [putCells, hj, show j < cur.size by omega]
  · rw [List.getElem?_append_right (by simpa using hj)]
    simp [putCells, hj, List.getElem?_drop, show ys.length + (j - ys.length) = j by omega]
/-- A function that lays other numbers into a slice of numbers. -/
theorem refill_ok (hent : Enters P f) (xs ys : List Int) (hl : ys.length = xs.length) (E : Nat)
    (hcall : ∀ (w : World) (g cap : Nat), Holds (Value.int .i64) w g 0 xs.toArray → g < w.heap.size → Calls P f #[.slice (some ⟨g, 0, none⟩) xs.length cap] w fun e w' => e = .returned (.tuple #[]) ∧ ∃ n os, w' = grow (putRow (Value.int .i64) (Sort.ahead w n) g 0 ys.toArray) os)
    (hnil : ∀ (w : World), Calls P f #[.slice none 0 0] w fun e w' => e = .returned (.tuple #[]) ∧ w' = w) :
    GoodM P tt b f [.own 0 E 1 (xs.map encI)] [] (fun r ov bx' => r = .tup [] ∧ ov = [(1000, .own 0 E 1 (ys.map encI))] ∧ bx' = []) := by
  refine ⟨hent, fun w0 G us S hA => ?_⟩
  obtain ⟨u, us', rfl, h1, h2⟩ := hA.cons_inv
  obtain rfl := h2.nil_inv
  obtain ⟨hT, css, ho, hcs⟩ := (show RC w0.B G w0.toWorld (.own 0 E 1 (xs.map encI)) u from h1)
  obtain rfl := ints_css hcs
  rcases ho.2 with ⟨rfl, h0⟩ | ⟨g, cap, cur, rfl, hg, hh, hc, hm, hsz, ht⟩
  · have hx : xs = [] := List.eq_nil_of_length_eq_zero (by simpa using h0)
    subst hx
    have hy : ys = [] := List.eq_nil_of_length_eq_zero (by simpa using hl)
    subst hy
    refine (hnil _).mono ?_
    rintro e w' ⟨rfl, rfl⟩
    exact ⟨_, .tup [], _, [], G, rfl, ⟨rfl, rfl, rfl⟩, S, ⟨[], rfl, trivial⟩⟩
  · have hlen : (xs.map encI).length = xs.length := List.length_map ..
    rw [hlen] at hc ht ⊢
    rw [Nat.mul_one, flat1] at ht
    have hlt : g < w0.toWorld.heap.size := (Array.getElem?_eq_some_iff.1 hh).1
    have hcur : ys.length ≤ cur.size := by omega
    refine (hcall _ g cap (holds_of_blockI hh ht) hlt).mono ?_
    rintro e w' ⟨rfl, n, os, rfl⟩
    have S1 := S.copyOwn (src := ys.map encI) (dss := ys.map fun x => [Value.int .i64 x]) (lo := 0) (z := 1) (T := 0) (n := (xs.map encI).length) hT hh (by simp [hl]) (by simp; omega) css_ints
    rw [put_take cur ys hcur] at S1
    have S2 := S1.world (w' := grow (putRow (Value.int .i64) (Sort.ahead w0.toWorld n) g 0 ys.toArray) os) ?sz ?bl ?ch
    case sz => simp [World.setRow, grow, putRow, mapBlock, Sort.ahead]
    case bl =>
      intro k hk
      by_cases hkg : k = g
      · subst hkg
        rw [heap_sortedI _ hh, setRow_heap _ _ _ _ _ _ hh]
      · rw [setRow_other _ _ _ _ hkg]
        have := (grownBy_sortedI (w := w0.toWorld) (g := g) (n := n) (os := os) ys.toArray).block k (by simpa [World.setRow] using hk) (by simpa using hkg)
        exact this
    case ch =>
      refine S.chg.grown (row := some g) (grownBy_sortedI _) fun k hk => ?_
      injection hk with hk
      subst hk
      rcases (S.ownLt 0 _ g hT rfl).1 with h | h
      · exact .inr h
      · exact .inl (.inr h)
    refine ⟨_, .tup [], [(1000, .own 0 E 1 (ys.map encI))], [], G, rfl, ⟨rfl, rfl, rfl⟩, ?_, ⟨[], rfl, trivial⟩⟩
    have e : spl (xs.map encI) 0 (ys.map encI) = ys.map encI := by simp [spl, hl]
    refine { S2 with slot := fun i => ?_, box := fun t cs h => by cases h }
    by_cases hi : i = 1000
    · subst hi
      have := S2.slot 1000
      rw [show ((mkSt (ovOf 1000 [AV.own 0 E 1 (xs.map encI)]) [] b).map (copyF 0 1 0 (ys.map encI))).slot 1000 = .own 0 E 1 (spl (xs.map encI) 0 (ys.map encI)) from rfl, e] at this
      exact this
    · rw [show (mkSt [(1000, AV.own 0 E 1 (ys.map encI))] [] b).slot i = .undef from by simp [mkSt, lk, beq_ne hi]]
      trivial
/-- A function that lays fewer numbers into a slice of numbers and returns that part. -/
theorem shrink_ok (hent : Enters P f) (xs ys : List Int) (hl : ys.length ≤ xs.length) (E : Nat)
    (hcall : ∀ (w : World) (g cap : Nat), Holds (Value.int .i64) w g 0 xs.toArray → g < w.heap.size → xs.length ≤ cap → Calls P f #[.slice (some ⟨g, 0, none⟩) xs.length cap] w fun e w' => e = .returned (.slice (some ⟨g, 0, none⟩) ys.length cap) ∧ ∃ n os, w' = grow (putRow (Value.int .i64) (Sort.ahead w n) g 0 (ys ++ List.replicate (xs.length - ys.length) 0).toArray) os)
    (hnil : ∀ (w : World), Calls P f #[.slice none 0 0] w fun e w' => e = .returned (.slice none 0 0) ∧ w' = w) :
    GoodM P tt b f [.own 0 E 1 (xs.map encI)] [] (fun r ov bx' => r = .own 0 E 1 (ys.map encI) ∧ ov = [] ∧ bx' = []) := by
  generalize hzs : ys ++ List.replicate (xs.length - ys.length) 0 = zs at hcall
  have hzl : zs.length = xs.length := by rw [← hzs]; simp; omega
  have hzt : zs.take ys.length = ys := by rw [← hzs]; simp
  refine ⟨hent, fun w0 G us S hA => ?_⟩
  obtain ⟨u, us', rfl, h1, h2⟩ := hA.cons_inv
  obtain rfl := h2.nil_inv
  obtain ⟨hT, css, ho, hcs⟩ := (show RC w0.B G w0.toWorld (.own 0 E 1 (xs.map encI)) u from h1)
  obtain rfl := ints_css hcs
  have hS0 : ∀ {s : St} {G : Gh} {w' : World}, Sim tt w0 G s a0 w' → s.tp = b → Sim tt w0 G (mkSt [] [] b) a0 w' := fun {s G w'} S' hb => by
    subst hb
    exact { S' with slot := fun i => trivial, box := fun t cs h => by cases h }
  rcases ho.2 with ⟨rfl, h0⟩ | ⟨g, cap, cur, rfl, hg, hh, hc, hm, hsz, ht⟩
  · have hx : xs = [] := List.eq_nil_of_length_eq_zero (by simpa using h0)
    subst hx
    have hy : ys = [] := List.eq_nil_of_length_eq_zero (by simpa using hl)
    subst hy
    refine (hnil _).mono ?_
    rintro e w' ⟨rfl, rfl⟩
    exact ⟨_, .own 0 E 1 [], [], [], G, rfl, ⟨rfl, rfl, rfl⟩, hS0 S rfl, h1⟩
  · have hlen : (xs.map encI).length = xs.length := List.length_map ..
    rw [hlen] at hc ht ⊢
    rw [Nat.mul_one, flat1] at ht
    have hlt : g < w0.toWorld.heap.size := (Array.getElem?_eq_some_iff.1 hh).1
    have hcur : zs.length ≤ cur.size := by omega
    refine (hcall _ g cap (holds_of_blockI hh ht) hlt hc).mono ?_
    rintro e w' ⟨rfl, n, os, rfl⟩
    have S1 := S.copyOwn (src := zs.map encI) (dss := zs.map fun x => [Value.int .i64 x]) (lo := 0) (z := 1) (T := 0) (n := (xs.map encI).length) hT hh (by simp [hzl]) (by simp; omega) css_ints
    rw [put_take cur zs hcur] at S1
    have S2 := S1.world (w' := grow (putRow (Value.int .i64) (Sort.ahead w0.toWorld n) g 0 zs.toArray) os) ?sz ?bl ?ch
    case sz => simp [World.setRow, grow, putRow, mapBlock, Sort.ahead]
    case bl =>
      intro k hk
      by_cases hkg : k = g
      · subst hkg
        rw [heap_sortedI _ hh, setRow_heap _ _ _ _ _ _ hh]
      · rw [setRow_other _ _ _ _ hkg]
        have := (grownBy_sortedI (w := w0.toWorld) (g := g) (n := n) (os := os) zs.toArray).block k (by simpa [World.setRow] using hk) (by simpa using hkg)
        exact this
    case ch =>
      refine S.chg.grown (row := some g) (grownBy_sortedI _) fun k hk => ?_
      injection hk with hk
      subst hk
      rcases (S.ownLt 0 _ g hT rfl).1 with h | h
      · exact .inr h
      · exact .inl (.inr h)
    have e : spl (xs.map encI) 0 (zs.map encI) = zs.map encI := by simp [spl, hzl]
    have hsl := S2.slot 1000
    rw [show ((mkSt (ovOf 1000 [AV.own 0 E 1 (xs.map encI)]) [] b).map (copyF 0 1 0 (zs.map encI))).slot 1000 = .own 0 E 1 (spl (xs.map encI) 0 (zs.map encI)) from rfl, e] at hsl
    obtain ⟨hT2, css2, ho2, hcs2⟩ := (show RC w0.B G _ (.own 0 E 1 (zs.map encI)) _ from hsl)
    rw [hT] at hT2
    injection hT2 with hT2
    rw [← hT2] at ho2
    obtain rfl := ints_css hcs2
    rcases ho2.2 with ⟨e0, _⟩ | ⟨g2, cap2, cur2, eu, k1, k2, k3, k4, k5, k6⟩
    · cases e0
    · simp only [Value.slice.injEq, Option.some.injEq, Addr.mk.injEq, and_true] at eu
      obtain ⟨rfl, -, rfl⟩ := eu
      have S3 := S2.setOwn 0 (.slice (some ⟨g, 0, none⟩) ys.length cap) (Nat.le_refl _) (fun _ _ _ => rfl) (fun b hb' => .inl ⟨_, hT, hb'⟩) S2.chg
      refine ⟨_, .own 0 E 1 (ys.map encI), [], [], { G with own := upd G.own 0 (some (.slice (some ⟨g, 0, none⟩) ys.length cap)) }, rfl, ⟨rfl, rfl, rfl⟩, hS0 S3 rfl, ?_⟩
      have hly : (ys.map encI).length = ys.length := List.length_map ..
      rw [flat1, List.length_map, hzl, Nat.mul_one] at k6
      refine show RC w0.B { G with own := upd G.own 0 (some (.slice (some ⟨g, 0, none⟩) ys.length cap)) } _ (.own 0 E 1 (ys.map encI)) _ from ⟨by simp [upd], ys.map fun x => [Value.int .i64 x], ⟨?_, .inr ⟨g, cap, cur2, by rw [hly], k1, k2, by rw [hly]; omega, k4, k5, ?_⟩⟩, css_ints⟩
      · rw [flat1]; simp
      · rw [flat1, hly, Nat.mul_one]
        have := congrArg (List.take ys.length) k6
        rw [List.take_take, Nat.min_eq_left hl, ← List.map_take, hzt] at this
        exact this
end
end Go.Proofs.Ythgnomniboindaa
end

/- The shelf's contracts laid at this program, in plain text. (Printed by wip/mkshl.py.) -/
section
namespace Go.Proofs.Ythgnomniboindaa
set_option linter.unusedVariables false
set_option maxRecDepth 100000
open Go.Shelf Go.Sort Go.RowKit
def laysSort_ren : Go.Shelf.Ren := ⟨fun | 189 => 64 | 125 => 75 | 257 => 74 | 128 => 87 | 129 => 88 | 294 => 78 | 295 => 79 | 296 => 80 | 297 => 81 | 298 => 82 | 299 => 83 | 216 => 84 | 300 => 85 | 301 => 86 | 328 => 90 | 329 => 91 | 330 => 92 | 331 => 93 | 332 => 94 | 215 => 69 | 343 => 95 | n => n, fun | 28 => 22 | 3 => 3 | 46 => 123 | 0 => 0 | 51 => 137 | 53 => 139 | 4 => 4 | 183 => 130 | 182 => 129 | 131 => 79 | 5 => 5 | 9 => 9 | 218 => 141 | 222 => 145 | 228 => 147 | 229 => 148 | n => n, fun | n => n⟩
theorem laysSort : Lays.n189 Try.prog laysSort_ren := {
  mixed := by kernel_rfl,
  f125 := Try.func75.trans (congrArg some (by kernel_rfl)),
  f128 := Try.func87.trans (congrArg some (by kernel_rfl)),
  f129 := Try.func88.trans (congrArg some (by kernel_rfl)),
  f189 := Try.func64.trans (congrArg some (by kernel_rfl)),
  f215 := Try.func69.trans (congrArg some (by kernel_rfl)),
  f216 := Try.func84.trans (congrArg some (by kernel_rfl)),
  f257 := Try.func74.trans (congrArg some (by kernel_rfl)),
  f294 := Try.func78.trans (congrArg some (by kernel_rfl)),
  f295 := Try.func79.trans (congrArg some (by kernel_rfl)),
  f296 := Try.func80.trans (congrArg some (by kernel_rfl)),
  f297 := Try.func81.trans (congrArg some (by kernel_rfl)),
  f298 := Try.func82.trans (congrArg some (by kernel_rfl)),
  f299 := Try.func83.trans (congrArg some (by kernel_rfl)),
  f300 := Try.func85.trans (congrArg some (by kernel_rfl)),
  f301 := Try.func86.trans (congrArg some (by kernel_rfl)),
  f328 := Try.func90.trans (congrArg some (by kernel_rfl)),
  f329 := Try.func91.trans (congrArg some (by kernel_rfl)),
  f330 := Try.func92.trans (congrArg some (by kernel_rfl)),
  f331 := Try.func93.trans (congrArg some (by kernel_rfl)),
  f332 := Try.func94.trans (congrArg some (by kernel_rfl)),
  f343 := Try.func95.trans (congrArg some (by kernel_rfl)),
  t0 := Try.underlying0,
  a0 := Try.isAgg0,
  z0 := Try.sizeOf0,
  v0 := Try.zeroValue0,
  t3 := Try.underlying3,
  a3 := Try.isAgg3,
  z3 := Try.sizeOf3,
  v3 := Try.zeroValue3,
  t4 := Try.underlying4,
  a4 := Try.isAgg4,
  z4 := Try.sizeOf4,
  v4 := Try.zeroValue4,
  t5 := Try.underlying5,
  a5 := Try.isAgg5,
  z5 := Try.sizeOf5,
  v5 := Try.zeroValue5,
  t9 := Try.underlying9,
  a9 := Try.isAgg9,
  z9 := Try.sizeOf9,
  v9 := Try.zeroValue9,
  t28 := Try.underlying22,
  a28 := Try.isAgg22,
  z28 := Try.sizeOf22,
  v28 := Try.zeroValue22,
  t46 := Try.underlying123,
  a46 := Try.isAgg123,
  z46 := Try.sizeOf123,
  v46 := Try.zeroValue123,
  t51 := Try.underlying137,
  a51 := Try.isAgg137,
  z51 := Try.sizeOf137,
  v51 := Try.zeroValue137,
  t53 := Try.underlying139,
  a53 := Try.isAgg139,
  z53 := Try.sizeOf139,
  v53 := Try.zeroValue139,
  t131 := Try.underlying79,
  a131 := Try.isAgg79,
  z131 := Try.sizeOf79,
  v131 := Try.zeroValue79,
  t182 := Try.underlying129,
  a182 := Try.isAgg129,
  z182 := Try.sizeOf129,
  v182 := Try.zeroValue129,
  t183 := Try.underlying130,
  a183 := Try.isAgg130,
  z183 := Try.sizeOf130,
  v183 := Try.zeroValue130,
  t218 := Try.underlying141,
  a218 := Try.isAgg141,
  z218 := Try.sizeOf141,
  v218 := Try.zeroValue141,
  t222 := Try.underlying145,
  a222 := Try.isAgg145,
  z222 := Try.sizeOf145,
  v222 := Try.zeroValue145,
  t228 := Try.underlying147,
  a228 := Try.isAgg147,
  z228 := Try.sizeOf147,
  v228 := Try.zeroValue147,
  t229 := Try.underlying148,
  a229 := Try.isAgg148,
  z229 := Try.sizeOf148,
  v229 := Try.zeroValue148 }
def laysCpt_ren : Go.Shelf.Ren := ⟨fun | 20 => 65 | n => n, fun | 22 => 22 | 3 => 3 | 4 => 4 | 0 => 0 | n => n, fun | n => n⟩
theorem laysCpt : Lays2.n20 Try.prog laysCpt_ren := {
  mixed := by kernel_rfl,
  f20 := Try.func65.trans (congrArg some (by kernel_rfl)),
  t0 := Try.underlying0,
  a0 := Try.isAgg0,
  z0 := Try.sizeOf0,
  v0 := Try.zeroValue0,
  t3 := Try.underlying3,
  a3 := Try.isAgg3,
  z3 := Try.sizeOf3,
  v3 := Try.zeroValue3,
  t4 := Try.underlying4,
  a4 := Try.isAgg4,
  z4 := Try.sizeOf4,
  v4 := Try.zeroValue4,
  t22 := Try.underlying22,
  a22 := Try.isAgg22,
  z22 := Try.sizeOf22,
  v22 := Try.zeroValue22,
  i3 := by kernel_rfl }
theorem sortI_ok {b : Bool} (xs : List Int) (hl : xs.length ≤ 1000000) : GoodM Try.prog TT b 64 [.own 0 3 1 (xs.map encI)] [] (fun r ov bx' => r = .tup [] ∧ ov = [(1000, .own 0 3 1 ((xs.mergeSort fun x y => decide (x ≤ y)).map encI))] ∧ bx' = []) :=
  refill_ok (enters_of Try.func64 rfl rfl) xs _ (by simp) _ (fun w g cap hH hb => Any.slices_Sort_int laysSort g 0 cap xs w hH hb (by omega)) (fun w => Any.slices_Sort_int_none laysSort none 0 w)
theorem compact_le {xs : List Int} : (Lib.compact xs).length ≤ xs.length := by
  unfold Lib.compact Lib.compactUpTo
  rw [List.length_map]
  exact Nat.le_trans (List.length_filter_le ..) (by simp)
theorem compactI_ok {b : Bool} (xs : List Int) (hl : xs.length ≤ 1000000) : GoodM Try.prog TT b 65 [.own 0 3 1 (xs.map encI)] [] (fun r ov bx' => r = .own 0 3 1 ((Lib.compact xs).map encI) ∧ ov = [] ∧ bx' = []) :=
  shrink_ok (enters_of Try.func65 rfl rfl) xs _ compact_le _ (fun w g cap hH hb hc => (Any.slices_Compact_int laysCpt g 0 cap xs w hH (by omega) hc).mono fun e w' h => ⟨h.1, by obtain ⟨n, hn⟩ := h.2; exact ⟨n, #[], by rw [hn, grow_empty]⟩⟩) (fun w => Any.slices_Compact_int_empty laysCpt none 0 w)
end Go.Proofs.Ythgnomniboindaa
end
