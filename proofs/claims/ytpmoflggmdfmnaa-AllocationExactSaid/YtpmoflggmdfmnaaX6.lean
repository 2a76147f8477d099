/- Several texts in one: GL25v, GL25x, GL25B, GL25F, GL25G, GL25h. -/
import Derived.Test.YtpmoflggmdfmnaaX5
import Derived.Test.YtpmoflggmdfmnaaX3
/- Layer 25: Check of the program. -/
section
namespace Go.Proofs.Ytpmoflggmdfmnaa
set_option linter.unusedVariables false
set_option linter.unusedSimpArgs false
set_option linter.unnecessarySimpa false
set_option linter.unusedSectionVars false
set_option maxRecDepth 10000
open Go.RowKit
def plGL25v_0 : Plan := (.take 0 (.take 1 (.take 2 (.take 3 (.take 4 (.take 5 (.take 6 (.alt 7 (.take 8 .done) .stop))))))))
def plGL25v_1 : Plan := (.take 0 (.take 1 (.take 2 (.take 3 (.take 4 (.take 5 (.alt 6 (.alt 7 (.take 8 .done) .stop) .stop)))))))
def plGL25v_2 : Plan := (.take 0 (.take 1 (.take 3 (.take 4 (.take 5 (.alt 2 (.alt 6 (.alt 7 (.take 8 .done) .stop) .stop) (.alt 6 (.alt 2 (.alt 7 (.take 8 .done) .stop) .stop) .stop)))))))
def plGL25v_3 : Plan := (.take 0 (.take 1 (.take 2 (.take 3 (.take 4 (.take 5 (.take 6 (.take 7 (.take 8 (.alt 9 (.take 10 (.take 11 .done)) .stop))))))))))
def plGL25v_4 : Plan := (.take 0 (.take 1 (.take 2 (.take 3 (.take 4 (.take 5 (.take 6 (.take 8 (.alt 7 (.alt 9 (.take 10 (.take 11 .done)) .stop) .stop)))))))))
def plGL25v_5 : Plan := (.take 0 (.take 1 (.take 2 (.take 3 (.take 4 (.take 5 (.take 6 (.alt 7 (.alt 8 (.alt 9 (.take 10 (.take 11 .done)) .stop) .stop) (.alt 8 (.alt 7 (.alt 9 (.take 10 (.take 11 .done)) .stop) .stop) .stop)))))))))
def plGL25v_6 : Plan := (.take 0 (.take 1 (.take 2 (.take 4 (.take 5 (.alt 3 (.take 6 .done) .stop))))))
def plGL25v_7 : Plan := (.take 0 (.take 1 (.take 4 (.alt 2 (.alt 3 (.alt 5 (.take 6 .done) .stop) (.alt 5 (.alt 3 (.take 6 .done) .stop) .stop)) (.alt 5 (.alt 2 (.alt 3 (.take 6 .done) .stop) .stop) .stop)))))
theorem notK_ok (x k : Int) : Good Try.prog TT false 68 [.int .i64 x, .ref [.int .i64 k]] (· = .bool (x != k)) := by
  refine good_of mixed tabOk Try.func68 rfl rfl Try.ntmps68 Try.results68 rfl rfl ?_
  (conv => whnf); (repeat' (first | (refine arith_i ⟨by omega, by omega⟩ ?_; conv => whnf) | (refine arith_u ⟨by omega, by omega⟩ ?_; conv => whnf) | (refine arith_8 ⟨by omega, by omega⟩ ?_; conv => whnf) | (refine need_i (by first | omega | (simp only [List.length_cons, List.length_nil]; omega) | (simp only [List.length_append, List.length_cons, List.length_nil, List.length_map, List.length_replicate, List.length_modify]; omega)) ?_; conv => whnf) | ((with_reducible first | refine branch_tt ?_ | refine branch_ff ?_); conv => whnf) | (with_reducible refine branch_not ?_) | ((with_reducible first | refine slc_e ?_ | refine callS_a ?_ | refine bld_a ?_ | refine own_e ?_ | refine mkmap_b ?_); conv => whnf) | ((with_reducible first | refine branch_d (fun hq => ?_) (fun hq => ?_) | refine branch_e (fun hq => ?_) (fun hq => ?_) | refine branch_n (fun hq => ?_) (fun hq => ?_) | refine branch_i (fun hq => ?_) (fun hq => ?_)) <;> (try (exfalso; omega)) <;> (conv => whnf))))
  exact ret_p rfl rfl
def anyK (xs : List Int) (k : Int) : Bool := xs.any fun x => x != k
theorem anyK_next {xs : List Int} {k x : Int} {i : Nat} (h : xs[i]? = some x) : anyK (xs.take (i + 1)) k = (anyK (xs.take i) k || x != k) := by
  unfold anyK; rw [List.take_add_one, h, List.any_append]; simp
theorem indexK_ok (xs : List Int) (k : Int) (hx : xs.length ≤ 1000) : Good Try.prog TT false 96 [ints xs, .fn 68 [.ref [.int .i64 k]]] (fun r => ∃ i : Int, r = .int .i64 i ∧ decide (i ≥ 0) = anyK xs k) := by
  have LX : (xs.map encI).length = xs.length := List.length_map ..
  refine good_of mixed tabOk Try.func96 rfl rfl Try.ntmps96 Try.results96 rfl rfl ?_
  (conv => whnf); (repeat' (first | (refine arith_i ⟨by omega, by omega⟩ ?_; conv => whnf) | (refine arith_u ⟨by omega, by omega⟩ ?_; conv => whnf) | (refine arith_8 ⟨by omega, by omega⟩ ?_; conv => whnf) | (refine need_i (by first | omega | (simp only [List.length_cons, List.length_nil]; omega) | (simp only [List.length_append, List.length_cons, List.length_nil, List.length_map, List.length_replicate, List.length_modify]; omega)) ?_; conv => whnf) | ((with_reducible first | refine branch_tt ?_ | refine branch_ff ?_); conv => whnf) | (with_reducible refine branch_not ?_) | ((with_reducible first | refine slc_e ?_ | refine callS_a ?_ | refine bld_a ?_ | refine own_e ?_ | refine mkmap_b ?_); conv => whnf) | ((with_reducible first | refine branch_d (fun hq => ?_) (fun hq => ?_) | refine branch_e (fun hq => ?_) (fun hq => ?_) | refine branch_n (fun hq => ?_) (fun hq => ?_) | refine branch_i (fun hq => ?_) (fun hq => ?_)) <;> (try (exfalso; omega)) <;> (conv => whnf))))
  refine loop_i (fun i : Nat => i ≤ xs.length ∧ anyK (xs.take i) k = false) (fun i => mkSt [(0, ints xs), (1, .fn 68 [.ref [.int .i64 k]]), (7, .int .i64 xs.length), (8, .int .i64 i)] [] false) (fun i => xs.length - i) 0 ⟨Nat.zero_le _, rfl⟩ (le_mk ⟨rfl, rfl, int_eq (by rw [LX]), rfl, trivial⟩ trivial rfl) ?_
  rintro i ⟨hi, ho⟩
  rcases Nat.lt_or_ge i xs.length with hil | hil
  · obtain ⟨x, hx'⟩ : ∃ x, xs[i]? = some x := ⟨_, List.getElem?_eq_getElem hil⟩
    have hn := anyK_next (k := k) hx'
    (conv => whnf); (repeat' (first | (refine arith_i ⟨by omega, by omega⟩ ?_; conv => whnf) | (refine arith_u ⟨by omega, by omega⟩ ?_; conv => whnf) | (refine arith_8 ⟨by omega, by omega⟩ ?_; conv => whnf) | (refine need_i (by first | omega | (simp only [List.length_cons, List.length_nil]; omega) | (simp only [List.length_append, List.length_cons, List.length_nil, List.length_map, List.length_replicate, List.length_modify]; omega)) ?_; conv => whnf) | ((with_reducible first | refine branch_tt ?_ | refine branch_ff ?_); conv => whnf) | (with_reducible refine branch_not ?_) | ((refine idx_cs hx' ?_); conv => whnf) | ((refine call_e (notK_ok x k) ?_); conv => whnf) | ((with_reducible first | refine slc_e ?_ | refine callS_a ?_ | refine bld_a ?_ | refine own_e ?_ | refine mkmap_b ?_); conv => whnf) | ((with_reducible first | refine branch_d (fun hq => ?_) (fun hq => ?_) | refine branch_e (fun hq => ?_) (fun hq => ?_) | refine branch_n (fun hq => ?_) (fun hq => ?_) | refine branch_i (fun hq => ?_) (fun hq => ?_)) <;> (try (exfalso; omega)) <;> (conv => whnf))))
    · refine ret_p rfl ⟨i, rfl, ?_⟩
      have e : anyK xs k = true := by
        unfold anyK
        rw [List.any_eq_true]; exact ⟨x, List.mem_of_getElem? hx', by simpa using hq⟩
      rw [e]; simp
    · exact ⟨i + 1, ⟨by omega, by rw [hn, ho, Bool.false_or]; simpa using hq⟩, (le_mk (by repeat' (first | exact trivial | rfl | apply And.intro)) (by repeat' (first | exact trivial | rfl | apply And.intro)) rfl), by omega⟩
  · (conv => whnf); (repeat' (first | (refine arith_i ⟨by omega, by omega⟩ ?_; conv => whnf) | (refine arith_u ⟨by omega, by omega⟩ ?_; conv => whnf) | (refine arith_8 ⟨by omega, by omega⟩ ?_; conv => whnf) | (refine need_i (by first | omega | (simp only [List.length_cons, List.length_nil]; omega) | (simp only [List.length_append, List.length_cons, List.length_nil, List.length_map, List.length_replicate, List.length_modify]; omega)) ?_; conv => whnf) | ((with_reducible first | refine branch_tt ?_ | refine branch_ff ?_); conv => whnf) | (with_reducible refine branch_not ?_) | ((with_reducible first | refine slc_e ?_ | refine callS_a ?_ | refine bld_a ?_ | refine own_e ?_ | refine mkmap_b ?_); conv => whnf) | ((with_reducible first | refine branch_d (fun hq => ?_) (fun hq => ?_) | refine branch_e (fun hq => ?_) (fun hq => ?_) | refine branch_n (fun hq => ?_) (fun hq => ?_) | refine branch_i (fun hq => ?_) (fun hq => ?_)) <;> (try (exfalso; omega)) <;> (conv => whnf))))
    rw [List.take_of_length_le hil] at ho
    exact ret_p rfl ⟨-1, rfl, by rw [ho]; rfl⟩
theorem containsK_ok (xs : List Int) (k : Int) (hx : xs.length ≤ 1000) : Good Try.prog TT false 67 [ints xs, .fn 68 [.ref [.int .i64 k]]] (· = .bool (anyK xs k)) := by
  have LX : (xs.map encI).length = xs.length := List.length_map ..
  refine good_of mixed tabOk Try.func67 rfl rfl Try.ntmps67 Try.results67 rfl rfl ?_
  (conv => whnf); (repeat' (first | (refine arith_i ⟨by omega, by omega⟩ ?_; conv => whnf) | (refine arith_u ⟨by omega, by omega⟩ ?_; conv => whnf) | (refine arith_8 ⟨by omega, by omega⟩ ?_; conv => whnf) | (refine need_i (by first | omega | (simp only [List.length_cons, List.length_nil]; omega) | (simp only [List.length_append, List.length_cons, List.length_nil, List.length_map, List.length_replicate, List.length_modify]; omega)) ?_; conv => whnf) | ((with_reducible first | refine branch_tt ?_ | refine branch_ff ?_); conv => whnf) | (with_reducible refine branch_not ?_) | (((refine call_i (indexK_ok xs k hx) fun r h => ?_; obtain ⟨i, rfl, hi⟩ := h)); conv => whnf) | ((with_reducible first | refine slc_e ?_ | refine callS_a ?_ | refine bld_a ?_ | refine own_e ?_ | refine mkmap_b ?_); conv => whnf) | ((with_reducible first | refine branch_d (fun hq => ?_) (fun hq => ?_) | refine branch_e (fun hq => ?_) (fun hq => ?_) | refine branch_n (fun hq => ?_) (fun hq => ?_) | refine branch_i (fun hq => ?_) (fun hq => ?_)) <;> (try (exfalso; omega)) <;> (conv => whnf))))
  exact ret_p rfl (bool_eq hi)
theorem findS_at {s : List Scr} {n : Int} {p : Nat} (h : findS s n = some p) : ∃ x, s[p]? = some x ∧ x.number = n := by
  rw [findS, List.findIdx?_eq_some_iff_getElem] at h
  obtain ⟨h1, h2, -⟩ := h
  exact ⟨s[p], List.getElem?_eq_getElem h1, by simpa using h2⟩
def taskE (l : List Mrk) (s : List Scr) (ts : List (Int × Int)) (i : Nat) : Int := match ts[i]? with
  | none => 0
  | some t => match findS s t.1 with
    | none => 4
    | some p => match s[p]? with
      | none => 4
      | some x => if eligB l t.2 x = false then 40 else if 0 < i ∧ 0 ≤ cmpT (ts.getD (i - 1) (0, 0)) t then 43 else 0
def firstE (f : Nat → Int) : Nat → Int
  | 0 => 0
  | n + 1 => if firstE f n = 0 then f n else firstE f n
theorem firstE_stop {f : Nat → Int} {i n : Nat} (h : i ≤ n) (h0 : firstE f i ≠ 0) : firstE f n = firstE f i := by
  induction h with
  | refl => rfl
  | step _ ih => rw [firstE, if_neg (by rw [ih]; exact h0), ih]
def cntS (s : List Scr) (ts : List (Int × Int)) (i p : Nat) : Nat := (markF (ts.take i) (numF s p)).length
theorem nsL_congr {K : Nat} {f g : Nat → Nat} (h : ∀ m, m < K → f m = g m) : nsL K f = nsL K g := by
  unfold nsL; exact List.map_congr_left fun x hx => by rw [h x (List.mem_range.1 hx)]
theorem cntS_next {s : List Scr} (hA : AscS s) {ts : List (Int × Int)} {i p : Nat} {t : Int × Int} (ht : ts[i]? = some t) (hp : findS s t.1 = some p) : nsL s.length (cntS s ts (i + 1)) = nsL s.length (incL (cntS s ts i) p) := nsL_congr fun m hm => by
  obtain ⟨x, hx, hn⟩ := findS_at hp
  obtain ⟨y, hy⟩ : ∃ y, s[m]? = some y := ⟨_, List.getElem?_eq_getElem hm⟩
  unfold cntS incL
  rw [mark_next ht, List.length_append, numF_at hy]
  by_cases h : m = p
  · subst h; rw [hx] at hy; injection hy with hy
    rw [← hy, if_pos hn.symm, if_pos rfl]; simp only [numF_at hx]; rfl
  · rw [if_neg h, if_neg]; · simp only [numF_at hy]; rfl
    intro e
    rcases Nat.lt_or_gt_of_ne h with g | g
    · have := asc_lt hA hy hx g; omega
    · have := asc_lt hA hx hy g; omega
def shareB (s : List Scr) (k : Int) (ts : List (Int × Int)) : Bool := anyK ((List.range s.length).map fun p => ((cntS s ts ts.length p : Nat) : Int)) k
def overB (l : List Mrk) (ts : List (Int × Int)) : Bool := l.any fun m => decide (m.cap < loadF ts m.id)
theorem over_next {l : List Mrk} {ts : List (Int × Int)} {j : Nat} {m : Mrk} (h : l[j]? = some m) : overB (l.take (j + 1)) ts = (overB (l.take j) ts || decide (m.cap < loadF ts m.id)) := by
  unfold overB; rw [List.take_add_one, h, List.any_append]; simp
def checkV (l : List Mrk) (s : List Scr) (k : Int) (ts : List (Int × Int)) : Int :=
  if okK k = false then 1 else if 120 < ts.length then 3 else if firstE (taskE l s ts) ts.length ≠ 0 then firstE (taskE l s ts) ts.length else if shareB s k ts = true then 10 else if overB l ts = true then 41 else 0
set_option maxHeartbeats 8000000 in
theorem aCheck_ok (l : List Mrk) (s : List Scr) (k : Int) (ts : List (Int × Int)) (ht : ts.length ≤ 1000) (hl : MksOk l) (hs : ScsOk s) : Good Try.prog TT false 21 [mrksV l, scrsV s, .int .i64 k, tasksV ts] (· = .int .i64 (checkV l s k ts)) := by
  have LL : (l.map encM).length = l.length := List.length_map ..
  have LS : (s.map encR).length = s.length := List.length_map ..
  have LT : (ts.map encT).length = ts.length := List.length_map ..
  have h16 := hl.len
  have h60 := hs.len
  have e0 : ((s.map encR).length : Int).toNat = s.length := by rw [LS]; simp
  cases hk : okK k with
  | false =>
    rw [checkV, if_pos hk]
    refine good_of mixed tabOk Try.func21 rfl rfl Try.ntmps21 Try.results21 rfl rfl ?_
    (conv => whnf); (repeat' (first | (refine arith_i ⟨by omega, by omega⟩ ?_; conv => whnf) | (refine arith_u ⟨by omega, by omega⟩ ?_; conv => whnf) | (refine arith_8 ⟨by omega, by omega⟩ ?_; conv => whnf) | (refine need_i (by first | omega | (simp only [List.length_cons, List.length_nil]; omega) | (simp only [List.length_append, List.length_cons, List.length_nil, List.length_map, List.length_replicate, List.length_modify]; omega)) ?_; conv => whnf) | ((with_reducible first | refine branch_tt ?_ | refine branch_ff ?_); conv => whnf) | (with_reducible refine branch_not ?_) | ((refine call_e ((right_ok l s k hl hs).mono fun r h => h.trans (bool_eq hk)) ?_); conv => whnf) | ((with_reducible first | refine slc_e ?_ | refine callS_a ?_ | refine bld_a ?_ | refine own_e ?_ | refine mkmap_b ?_); conv => whnf) | (refine draw_i 9 plGL25v_0 (by decide +kernel) ?_; (conv => whnf); fail_if_success (guard_target =~ False)) | (refine draw_i 9 plGL25v_1 (by decide +kernel) ?_; (conv => whnf); fail_if_success (guard_target =~ False)) | (refine draw_i 9 plGL25v_2 (by decide +kernel) ?_; (conv => whnf); fail_if_success (guard_target =~ False)) | (refine draw_i 12 plGL25v_3 (by decide +kernel) ?_; (conv => whnf); fail_if_success (guard_target =~ False)) | (refine draw_i 12 plGL25v_4 (by decide +kernel) ?_; (conv => whnf); fail_if_success (guard_target =~ False)) | (refine draw_i 12 plGL25v_5 (by decide +kernel) ?_; (conv => whnf); fail_if_success (guard_target =~ False)) | (refine draw_i 7 plGL25v_6 (by decide +kernel) ?_; (conv => whnf); fail_if_success (guard_target =~ False)) | (refine draw_i 7 plGL25v_7 (by decide +kernel) ?_; (conv => whnf); fail_if_success (guard_target =~ False)) | ((with_reducible refine And.intro ?_ ?_) <;> (conv => whnf)) | (with_reducible exact trivial) | ((with_reducible first | refine branch_d (fun hq => ?_) (fun hq => ?_) | refine branch_e (fun hq => ?_) (fun hq => ?_) | refine branch_n (fun hq => ?_) (fun hq => ?_) | refine branch_i (fun hq => ?_) (fun hq => ?_)) <;> (try (exfalso; omega)) <;> (conv => whnf))))
    exact ret_p rfl rfl
  | true =>
    obtain ⟨q, rfl, hq1, hq2⟩ := okK_in hk
    rw [checkV, if_neg (by simp [hk])]
    refine good_of mixed tabOk Try.func21 rfl rfl Try.ntmps21 Try.results21 rfl rfl ?_
    (conv => whnf); (repeat' (first | (refine arith_i ⟨by omega, by omega⟩ ?_; conv => whnf) | (refine arith_u ⟨by omega, by omega⟩ ?_; conv => whnf) | (refine arith_8 ⟨by omega, by omega⟩ ?_; conv => whnf) | (refine need_i (by first | omega | (simp only [List.length_cons, List.length_nil]; omega) | (simp only [List.length_append, List.length_cons, List.length_nil, List.length_map, List.length_replicate, List.length_modify]; omega)) ?_; conv => whnf) | ((with_reducible first | refine branch_tt ?_ | refine branch_ff ?_); conv => whnf) | (with_reducible refine branch_not ?_) | ((refine call_e ((right_ok l s q hl hs).mono fun r h => h.trans (bool_eq hk)) ?_); conv => whnf) | ((with_reducible first | refine slc_e ?_ | refine callS_a ?_ | refine bld_a ?_ | refine own_e ?_ | refine mkmap_b ?_); conv => whnf) | (refine draw_i 9 plGL25v_0 (by decide +kernel) ?_; (conv => whnf); fail_if_success (guard_target =~ False)) | (refine draw_i 9 plGL25v_1 (by decide +kernel) ?_; (conv => whnf); fail_if_success (guard_target =~ False)) | (refine draw_i 9 plGL25v_2 (by decide +kernel) ?_; (conv => whnf); fail_if_success (guard_target =~ False)) | (refine draw_i 12 plGL25v_3 (by decide +kernel) ?_; (conv => whnf); fail_if_success (guard_target =~ False)) | (refine draw_i 12 plGL25v_4 (by decide +kernel) ?_; (conv => whnf); fail_if_success (guard_target =~ False)) | (refine draw_i 12 plGL25v_5 (by decide +kernel) ?_; (conv => whnf); fail_if_success (guard_target =~ False)) | (refine draw_i 7 plGL25v_6 (by decide +kernel) ?_; (conv => whnf); fail_if_success (guard_target =~ False)) | (refine draw_i 7 plGL25v_7 (by decide +kernel) ?_; (conv => whnf); fail_if_success (guard_target =~ False)) | ((with_reducible refine And.intro ?_ ?_) <;> (conv => whnf)) | (with_reducible exact trivial) | ((with_reducible first | refine branch_d (fun hq => ?_) (fun hq => ?_) | refine branch_e (fun hq => ?_) (fun hq => ?_) | refine branch_n (fun hq => ?_) (fun hq => ?_) | refine branch_i (fun hq => ?_) (fun hq => ?_)) <;> (try (exfalso; omega)) <;> (conv => whnf))))
    · rw [if_pos (by omega)]
      exact ret_p rfl rfl
    rw [if_neg (by omega)]
    refine loop_i (fun i : Nat => i ≤ ts.length ∧ firstE (taskE l s ts) i = 0) (fun i => mkSt [(0, mrksV l), (1, scrsV s), (3, tasksV ts), (6, .ptr 6 0), (9, .own 26 3 1 (nsL s.length (cntS s ts i))), (27, tasksV ts), (28, .int .i64 ts.length), (29, .int .i64 i)] [(6, [.int .i64 q])] false) (fun i => ts.length - i) 0 ⟨Nat.zero_le _, rfl⟩ (le_mk ⟨rfl, rfl, rfl, rfl, by rw [e0]; exact congrArg (AV.own 26 3 1) ns_zero, rfl, int_eq (by rw [LT]), rfl, trivial⟩ ⟨rfl, trivial⟩ rfl) ?_
    rintro i ⟨hi, h0⟩
    rcases Nat.lt_or_ge i ts.length with hil | hil
    · obtain ⟨t, ht'⟩ : ∃ t, ts[i]? = some t := ⟨_, List.getElem?_eq_getElem hil⟩
      have hstep : firstE (taskE l s ts) (i + 1) = taskE l s ts i := by rw [firstE, if_pos h0]
      have hstop : taskE l s ts i ≠ 0 → firstE (taskE l s ts) ts.length = taskE l s ts i := fun h => by rw [firstE_stop (i := i + 1) (by omega) (by rw [hstep]; exact h), hstep]
      have hE : taskE l s ts i = match findS s t.1 with
        | none => 4
        | some p => match s[p]? with
          | none => 4
          | some x => if eligB l t.2 x = false then 40 else if 0 < i ∧ 0 ≤ cmpT (ts.getD (i - 1) (0, 0)) t then 43 else 0 := by rw [taskE, ht']
      cases hf : findS s t.1 with
      | none =>
        rw [hf] at hE
        (conv => whnf); (repeat' (first | (refine arith_i ⟨by omega, by omega⟩ ?_; conv => whnf) | (refine arith_u ⟨by omega, by omega⟩ ?_; conv => whnf) | (refine arith_8 ⟨by omega, by omega⟩ ?_; conv => whnf) | (refine need_i (by first | omega | (simp only [List.length_cons, List.length_nil]; omega) | (simp only [List.length_append, List.length_cons, List.length_nil, List.length_map, List.length_replicate, List.length_modify]; omega)) ?_; conv => whnf) | ((with_reducible first | refine branch_tt ?_ | refine branch_ff ?_); conv => whnf) | (with_reducible refine branch_not ?_) | ((refine idx_cs ht' ?_); conv => whnf) | (((refine call_i (indexOf_ok s t.1 hs) fun r h => ?_; unfold IdxR at h; rw [hf] at h; obtain ⟨i', rfl⟩ := h)); conv => whnf) | ((with_reducible first | refine slc_e ?_ | refine callS_a ?_ | refine bld_a ?_ | refine own_e ?_ | refine mkmap_b ?_); conv => whnf) | (refine draw_i 9 plGL25v_0 (by decide +kernel) ?_; (conv => whnf); fail_if_success (guard_target =~ False)) | (refine draw_i 9 plGL25v_1 (by decide +kernel) ?_; (conv => whnf); fail_if_success (guard_target =~ False)) | (refine draw_i 9 plGL25v_2 (by decide +kernel) ?_; (conv => whnf); fail_if_success (guard_target =~ False)) | (refine draw_i 12 plGL25v_3 (by decide +kernel) ?_; (conv => whnf); fail_if_success (guard_target =~ False)) | (refine draw_i 12 plGL25v_4 (by decide +kernel) ?_; (conv => whnf); fail_if_success (guard_target =~ False)) | (refine draw_i 12 plGL25v_5 (by decide +kernel) ?_; (conv => whnf); fail_if_success (guard_target =~ False)) | (refine draw_i 7 plGL25v_6 (by decide +kernel) ?_; (conv => whnf); fail_if_success (guard_target =~ False)) | (refine draw_i 7 plGL25v_7 (by decide +kernel) ?_; (conv => whnf); fail_if_success (guard_target =~ False)) | ((with_reducible refine And.intro ?_ ?_) <;> (conv => whnf)) | (with_reducible exact trivial) | ((with_reducible first | refine branch_d (fun hq => ?_) (fun hq => ?_) | refine branch_e (fun hq => ?_) (fun hq => ?_) | refine branch_n (fun hq => ?_) (fun hq => ?_) | refine branch_i (fun hq => ?_) (fun hq => ?_)) <;> (try (exfalso; omega)) <;> (conv => whnf))))
        replace hE : taskE l s ts i = 4 := hE
        rw [hstop (by rw [hE]; decide), hE, if_pos (by decide)]
        exact ret_p rfl rfl
      | some p =>
        obtain ⟨x, hx, hn⟩ := findS_at hf
        have hpl := (List.getElem?_eq_some_iff.1 hx).1
        rw [hf] at hE; simp only [hx] at hE
        have hnx := cntS_next hs.asc ht' hf
        have hcl : cntS s ts i p ≤ 1000 := by
          have := mark_len (ts := ts.take i) (m := numF s p)
          have h2 : (ts.take i).length ≤ ts.length := by simp; omega
          unfold cntS; omega
        rcases Nat.eq_zero_or_pos i with hz | hz
        · subst hz
          (conv => whnf); (repeat' (first | (refine arith_i ⟨by omega, by omega⟩ ?_; conv => whnf) | (refine arith_u ⟨by omega, by omega⟩ ?_; conv => whnf) | (refine arith_8 ⟨by omega, by omega⟩ ?_; conv => whnf) | (refine need_i (by first | omega | (simp only [List.length_cons, List.length_nil]; omega) | (simp only [List.length_append, List.length_cons, List.length_nil, List.length_map, List.length_replicate, List.length_modify]; omega)) ?_; conv => whnf) | ((with_reducible first | refine branch_tt ?_ | refine branch_ff ?_); conv => whnf) | (with_reducible refine branch_not ?_) | ((refine idx_cs ht' ?_); conv => whnf) | ((refine call_e ((indexOf_ok s t.1 hs).mono fun r h => (by unfold IdxR at h; rw [hf] at h; exact h : r = .tup [.int .i64 p, .bool true])) ?_); conv => whnf) | ((refine idx_cs hx ?_); conv => whnf) | ((refine call_e (eligible_ok l t.2 x hl.short) ?_); conv => whnf) | ((refine idx_f (m := p) rfl hpl ?_); conv => whnf) | ((with_reducible first | refine slc_e ?_ | refine callS_a ?_ | refine bld_a ?_ | refine own_e ?_ | refine mkmap_b ?_); conv => whnf) | (refine draw_i 9 plGL25v_0 (by decide +kernel) ?_; (conv => whnf); fail_if_success (guard_target =~ False)) | (refine draw_i 9 plGL25v_1 (by decide +kernel) ?_; (conv => whnf); fail_if_success (guard_target =~ False)) | (refine draw_i 9 plGL25v_2 (by decide +kernel) ?_; (conv => whnf); fail_if_success (guard_target =~ False)) | (refine draw_i 12 plGL25v_3 (by decide +kernel) ?_; (conv => whnf); fail_if_success (guard_target =~ False)) | (refine draw_i 12 plGL25v_4 (by decide +kernel) ?_; (conv => whnf); fail_if_success (guard_target =~ False)) | (refine draw_i 12 plGL25v_5 (by decide +kernel) ?_; (conv => whnf); fail_if_success (guard_target =~ False)) | (refine draw_i 7 plGL25v_6 (by decide +kernel) ?_; (conv => whnf); fail_if_success (guard_target =~ False)) | (refine draw_i 7 plGL25v_7 (by decide +kernel) ?_; (conv => whnf); fail_if_success (guard_target =~ False)) | ((with_reducible refine And.intro ?_ ?_) <;> (conv => whnf)) | (with_reducible exact trivial) | ((with_reducible first | refine branch_d (fun hq => ?_) (fun hq => ?_) | refine branch_e (fun hq => ?_) (fun hq => ?_) | refine branch_n (fun hq => ?_) (fun hq => ?_) | refine branch_i (fun hq => ?_) (fun hq => ?_)) <;> (try (exfalso; omega)) <;> (conv => whnf))))
          · have hel : eligB l t.2 x = true := by assumption
            exact ⟨_ + 1, ⟨by omega, by rw [hstep, hE, hel, if_neg (by simp), if_neg (by omega)]⟩, le_mk ⟨rfl, rfl, rfl, rfl, congrArg (AV.own 26 3 1) ((ns_inc rfl rfl).trans hnx.symm), rfl, rfl, rfl, trivial⟩ ⟨rfl, trivial⟩ rfl, by omega⟩
          · have hel : eligB l t.2 x = false := by assumption
            rw [hel, if_pos rfl] at hE
            rw [hstop (by rw [hE]; decide), hE, if_pos (by decide)]
            exact ret_p rfl rfl
        · obtain ⟨y, hy⟩ : ∃ y, ts[i - 1]? = some y := ⟨_, List.getElem?_eq_getElem (by omega)⟩
          have hgy : ts.getD (i - 1) (0, 0) = y := by simp [List.getD_eq_getElem?_getD, hy]
          rw [hgy] at hE
          (conv => whnf); (repeat' (first | (refine arith_i ⟨by omega, by omega⟩ ?_; conv => whnf) | (refine arith_u ⟨by omega, by omega⟩ ?_; conv => whnf) | (refine arith_8 ⟨by omega, by omega⟩ ?_; conv => whnf) | (refine need_i (by first | omega | (simp only [List.length_cons, List.length_nil]; omega) | (simp only [List.length_append, List.length_cons, List.length_nil, List.length_map, List.length_replicate, List.length_modify]; omega)) ?_; conv => whnf) | ((with_reducible first | refine branch_tt ?_ | refine branch_ff ?_); conv => whnf) | (with_reducible refine branch_not ?_) | ((refine idx_cs ht' ?_); conv => whnf) | ((refine call_e ((indexOf_ok s t.1 hs).mono fun r h => (by unfold IdxR at h; rw [hf] at h; exact h : r = .tup [.int .i64 p, .bool true])) ?_); conv => whnf) | ((refine idx_cs hx ?_); conv => whnf) | ((refine call_e (eligible_ok l t.2 x hl.short) ?_); conv => whnf) | ((refine idx_ms (by omega) (by rw [show ((i : Int) - 1).toNat = i - 1 by omega]; exact hy) ?_); conv => whnf) | ((refine call_e (compareTasks_ok y t) ?_); conv => whnf) | ((refine idx_f (m := p) rfl hpl ?_); conv => whnf) | ((with_reducible first | refine slc_e ?_ | refine callS_a ?_ | refine bld_a ?_ | refine own_e ?_ | refine mkmap_b ?_); conv => whnf) | (refine draw_i 9 plGL25v_0 (by decide +kernel) ?_; (conv => whnf); fail_if_success (guard_target =~ False)) | (refine draw_i 9 plGL25v_1 (by decide +kernel) ?_; (conv => whnf); fail_if_success (guard_target =~ False)) | (refine draw_i 9 plGL25v_2 (by decide +kernel) ?_; (conv => whnf); fail_if_success (guard_target =~ False)) | (refine draw_i 12 plGL25v_3 (by decide +kernel) ?_; (conv => whnf); fail_if_success (guard_target =~ False)) | (refine draw_i 12 plGL25v_4 (by decide +kernel) ?_; (conv => whnf); fail_if_success (guard_target =~ False)) | (refine draw_i 12 plGL25v_5 (by decide +kernel) ?_; (conv => whnf); fail_if_success (guard_target =~ False)) | (refine draw_i 7 plGL25v_6 (by decide +kernel) ?_; (conv => whnf); fail_if_success (guard_target =~ False)) | (refine draw_i 7 plGL25v_7 (by decide +kernel) ?_; (conv => whnf); fail_if_success (guard_target =~ False)) | ((with_reducible refine And.intro ?_ ?_) <;> (conv => whnf)) | (with_reducible exact trivial) | ((with_reducible first | refine branch_d (fun hq => ?_) (fun hq => ?_) | refine branch_e (fun hq => ?_) (fun hq => ?_) | refine branch_n (fun hq => ?_) (fun hq => ?_) | refine branch_i (fun hq => ?_) (fun hq => ?_)) <;> (try (exfalso; omega)) <;> (conv => whnf))))
          · have hel : eligB l t.2 x = true := by assumption
            rw [hel, if_neg (by simp), if_pos (by omega)] at hE
            rw [hstop (by rw [hE]; decide), hE, if_pos (by decide)]
            exact ret_p rfl rfl
          · have hel : eligB l t.2 x = true := by assumption
            exact ⟨_ + 1, ⟨by omega, by rw [hstep, hE, hel, if_neg (by simp), if_neg (by omega)]⟩, le_mk ⟨rfl, rfl, rfl, rfl, congrArg (AV.own 26 3 1) ((ns_inc rfl rfl).trans hnx.symm), rfl, rfl, rfl, trivial⟩ ⟨rfl, trivial⟩ rfl, by omega⟩
          · have hel : eligB l t.2 x = false := by assumption
            rw [hel, if_pos rfl] at hE
            rw [hstop (by rw [hE]; decide), hE, if_pos (by decide)]
            exact ret_p rfl rfl
    · obtain rfl : i = ts.length := by omega
      have hns : nsL s.length (cntS s ts ts.length) = ((List.range s.length).map fun p => ((cntS s ts ts.length p : Nat) : Int)).map encI := by simp [nsL, encI]
      rw [if_neg (by rw [h0]; simp)]
      (conv => whnf); (repeat' (first | (refine arith_i ⟨by omega, by omega⟩ ?_; conv => whnf) | (refine arith_u ⟨by omega, by omega⟩ ?_; conv => whnf) | (refine arith_8 ⟨by omega, by omega⟩ ?_; conv => whnf) | (refine need_i (by first | omega | (simp only [List.length_cons, List.length_nil]; omega) | (simp only [List.length_append, List.length_cons, List.length_nil, List.length_map, List.length_replicate, List.length_modify]; omega)) ?_; conv => whnf) | ((with_reducible first | refine branch_tt ?_ | refine branch_ff ?_); conv => whnf) | (with_reducible refine branch_not ?_) | (((rw [hns]; refine call_e (containsK_ok _ q (by simp; omega)) ?_)); conv => whnf) | ((with_reducible first | refine slc_e ?_ | refine callS_a ?_ | refine bld_a ?_ | refine own_e ?_ | refine mkmap_b ?_); conv => whnf) | (refine draw_i 9 plGL25v_0 (by decide +kernel) ?_; (conv => whnf); fail_if_success (guard_target =~ False)) | (refine draw_i 9 plGL25v_1 (by decide +kernel) ?_; (conv => whnf); fail_if_success (guard_target =~ False)) | (refine draw_i 9 plGL25v_2 (by decide +kernel) ?_; (conv => whnf); fail_if_success (guard_target =~ False)) | (refine draw_i 12 plGL25v_3 (by decide +kernel) ?_; (conv => whnf); fail_if_success (guard_target =~ False)) | (refine draw_i 12 plGL25v_4 (by decide +kernel) ?_; (conv => whnf); fail_if_success (guard_target =~ False)) | (refine draw_i 12 plGL25v_5 (by decide +kernel) ?_; (conv => whnf); fail_if_success (guard_target =~ False)) | (refine draw_i 7 plGL25v_6 (by decide +kernel) ?_; (conv => whnf); fail_if_success (guard_target =~ False)) | (refine draw_i 7 plGL25v_7 (by decide +kernel) ?_; (conv => whnf); fail_if_success (guard_target =~ False)) | ((with_reducible refine And.intro ?_ ?_) <;> (conv => whnf)) | (with_reducible exact trivial) | ((with_reducible first | refine branch_d (fun hq => ?_) (fun hq => ?_) | refine branch_e (fun hq => ?_) (fun hq => ?_) | refine branch_n (fun hq => ?_) (fun hq => ?_) | refine branch_i (fun hq => ?_) (fun hq => ?_)) <;> (try (exfalso; omega)) <;> (conv => whnf))))
      · have hsh : shareB s q ts = true := by assumption
        rw [if_pos hsh]; exact ret_p rfl rfl
      have hsh : shareB s q ts = false := by assumption
      rw [hsh, if_neg (by simp)]
      refine loop_i (fun j : Nat => j ≤ l.length ∧ overB (l.take j) ts = false) (fun j => mkSt [(3, tasksV ts), (74, mrksV l), (75, .int .i64 l.length), (76, .int .i64 j)] [] false) (fun j => l.length - j) 0 ⟨Nat.zero_le _, rfl⟩ (le_mk ⟨rfl, rfl, int_eq (by rw [LL]), rfl, trivial⟩ trivial rfl) ?_
      rintro j ⟨hj, hov⟩
      rcases Nat.lt_or_ge j l.length with hjl | hjl
      · obtain ⟨m, hm⟩ : ∃ m, l[j]? = some m := ⟨_, List.getElem?_eq_getElem hjl⟩
        have hnx := over_next (ts := ts) hm
        rw [hov, Bool.false_or] at hnx
        (conv => whnf); (repeat' (first | (refine arith_i ⟨by omega, by omega⟩ ?_; conv => whnf) | (refine arith_u ⟨by omega, by omega⟩ ?_; conv => whnf) | (refine arith_8 ⟨by omega, by omega⟩ ?_; conv => whnf) | (refine need_i (by first | omega | (simp only [List.length_cons, List.length_nil]; omega) | (simp only [List.length_append, List.length_cons, List.length_nil, List.length_map, List.length_replicate, List.length_modify]; omega)) ?_; conv => whnf) | ((with_reducible first | refine branch_tt ?_ | refine branch_ff ?_); conv => whnf) | (with_reducible refine branch_not ?_) | ((refine idx_cs hm ?_); conv => whnf) | ((refine call_e (load_ok ts m.id ht) ?_); conv => whnf) | ((with_reducible first | refine slc_e ?_ | refine callS_a ?_ | refine bld_a ?_ | refine own_e ?_ | refine mkmap_b ?_); conv => whnf) | (refine draw_i 9 plGL25v_0 (by decide +kernel) ?_; (conv => whnf); fail_if_success (guard_target =~ False)) | (refine draw_i 9 plGL25v_1 (by decide +kernel) ?_; (conv => whnf); fail_if_success (guard_target =~ False)) | (refine draw_i 9 plGL25v_2 (by decide +kernel) ?_; (conv => whnf); fail_if_success (guard_target =~ False)) | (refine draw_i 12 plGL25v_3 (by decide +kernel) ?_; (conv => whnf); fail_if_success (guard_target =~ False)) | (refine draw_i 12 plGL25v_4 (by decide +kernel) ?_; (conv => whnf); fail_if_success (guard_target =~ False)) | (refine draw_i 12 plGL25v_5 (by decide +kernel) ?_; (conv => whnf); fail_if_success (guard_target =~ False)) | (refine draw_i 7 plGL25v_6 (by decide +kernel) ?_; (conv => whnf); fail_if_success (guard_target =~ False)) | (refine draw_i 7 plGL25v_7 (by decide +kernel) ?_; (conv => whnf); fail_if_success (guard_target =~ False)) | ((with_reducible refine And.intro ?_ ?_) <;> (conv => whnf)) | (with_reducible exact trivial) | ((with_reducible first | refine branch_d (fun hq => ?_) (fun hq => ?_) | refine branch_e (fun hq => ?_) (fun hq => ?_) | refine branch_n (fun hq => ?_) (fun hq => ?_) | refine branch_i (fun hq => ?_) (fun hq => ?_)) <;> (try (exfalso; omega)) <;> (conv => whnf))))
        · have e : overB l ts = true := List.any_eq_true.2 ⟨m, List.mem_of_getElem? hm, decide_eq_true (by omega)⟩
          rw [e, if_pos rfl]; exact ret_p rfl rfl
        · exact ⟨j + 1, ⟨by omega, by rw [hnx]; exact decide_eq_false (by omega)⟩, (le_mk (by repeat' (first | exact trivial | rfl | apply And.intro)) (by repeat' (first | exact trivial | rfl | apply And.intro)) rfl), by omega⟩
      · rw [List.take_of_length_le hjl] at hov
        rw [hov, if_neg (by simp)]
        (conv => whnf); (repeat' (first | (refine arith_i ⟨by omega, by omega⟩ ?_; conv => whnf) | (refine arith_u ⟨by omega, by omega⟩ ?_; conv => whnf) | (refine arith_8 ⟨by omega, by omega⟩ ?_; conv => whnf) | (refine need_i (by first | omega | (simp only [List.length_cons, List.length_nil]; omega) | (simp only [List.length_append, List.length_cons, List.length_nil, List.length_map, List.length_replicate, List.length_modify]; omega)) ?_; conv => whnf) | ((with_reducible first | refine branch_tt ?_ | refine branch_ff ?_); conv => whnf) | (with_reducible refine branch_not ?_) | ((with_reducible first | refine slc_e ?_ | refine callS_a ?_ | refine bld_a ?_ | refine own_e ?_ | refine mkmap_b ?_); conv => whnf) | (refine draw_i 9 plGL25v_0 (by decide +kernel) ?_; (conv => whnf); fail_if_success (guard_target =~ False)) | (refine draw_i 9 plGL25v_1 (by decide +kernel) ?_; (conv => whnf); fail_if_success (guard_target =~ False)) | (refine draw_i 9 plGL25v_2 (by decide +kernel) ?_; (conv => whnf); fail_if_success (guard_target =~ False)) | (refine draw_i 12 plGL25v_3 (by decide +kernel) ?_; (conv => whnf); fail_if_success (guard_target =~ False)) | (refine draw_i 12 plGL25v_4 (by decide +kernel) ?_; (conv => whnf); fail_if_success (guard_target =~ False)) | (refine draw_i 12 plGL25v_5 (by decide +kernel) ?_; (conv => whnf); fail_if_success (guard_target =~ False)) | (refine draw_i 7 plGL25v_6 (by decide +kernel) ?_; (conv => whnf); fail_if_success (guard_target =~ False)) | (refine draw_i 7 plGL25v_7 (by decide +kernel) ?_; (conv => whnf); fail_if_success (guard_target =~ False)) | ((with_reducible refine And.intro ?_ ?_) <;> (conv => whnf)) | (with_reducible exact trivial) | ((with_reducible first | refine branch_d (fun hq => ?_) (fun hq => ?_) | refine branch_e (fun hq => ?_) (fun hq => ?_) | refine branch_n (fun hq => ?_) (fun hq => ?_) | refine branch_i (fun hq => ?_) (fun hq => ?_)) <;> (try (exfalso; omega)) <;> (conv => whnf))))
        exact ret_p rfl rfl
end Go.Proofs.Ytpmoflggmdfmnaa
end

/- Layer 25, plainly: what an allocation is like. -/
section
namespace Go.Proofs.Ytpmoflggmdfmnaa
set_option linter.unusedVariables false
set_option linter.unusedSimpArgs false
set_option linter.unnecessarySimpa false
set_option linter.unusedSectionVars false
set_option maxRecDepth 10000
section
variable {l : List Mrk} {s : List Scr} {A : Nat → Nat → Bool}
theorem rowT_sum {i : Nat} : ∀ {k : Nat}, (rowT l s A i k).length = sumN k fun m => (A i m).toNat
  | 0 => rfl
  | k + 1 => by
    rw [rowT_next, List.length_append, rowT_sum]
    show _ = sumN k _ + (A i k).toNat
    cases A i k <;> simp
theorem tasksT_sum : ∀ {n : Nat}, (tasksT l s A n).length = sumN n fun i => rowN l.length A i
  | 0 => rfl
  | n + 1 => by
    rw [tasksT_next, List.length_append, tasksT_sum, rowT_sum]; rfl
theorem sumN_const {f : Nat → Nat} {c : Nat} : ∀ {n : Nat}, (∀ i, i < n → f i = c) → sumN n f = n * c
  | 0, _ => by simp [sumN]
  | n + 1, h => by
    show sumN n f + f n = _
    rw [sumN_const fun i hi => h i (by omega), h n (by omega), Nat.add_mul]; omega
theorem idF_inj (hA : AscM l) {m m' : Nat} (h1 : m < l.length) (h2 : m' < l.length) (h : idF l m = idF l m') : m = m' := by
  obtain ⟨x, hx⟩ : ∃ x, l[m]? = some x := ⟨_, List.getElem?_eq_getElem h1⟩
  obtain ⟨y, hy⟩ : ∃ y, l[m']? = some y := ⟨_, List.getElem?_eq_getElem h2⟩
  rw [idF_at hx, idF_at hy] at h
  rcases Nat.lt_trichotomy m m' with g | g | g
  · have := hA m m' x y g hx hy; omega
  · exact g
  · have := hA m' m y x g hy hx; omega
theorem numF_lt (hA : AscS s) {i j : Nat} (h : i < j) (hj : j < s.length) : numF s i < numF s j := by
  obtain ⟨x, hx⟩ : ∃ x, s[i]? = some x := ⟨_, List.getElem?_eq_getElem (by omega)⟩
  obtain ⟨y, hy⟩ : ∃ y, s[j]? = some y := ⟨_, List.getElem?_eq_getElem hj⟩
  rw [numF_at hx, numF_at hy]; exact asc_lt hA hx hy h
theorem idF_lt (hA : AscM l) {i j : Nat} (h : i < j) (hj : j < l.length) : idF l i < idF l j := by
  obtain ⟨x, hx⟩ : ∃ x, l[i]? = some x := ⟨_, List.getElem?_eq_getElem (by omega)⟩
  obtain ⟨y, hy⟩ : ∃ y, l[j]? = some y := ⟨_, List.getElem?_eq_getElem hj⟩
  rw [idF_at hx, idF_at hy]; exact hA i j x y h hx hy
theorem loadF_app {a b : List (Int × Int)} {m : Int} : loadF (a ++ b) m = loadF a m + loadF b m := by unfold loadF; rw [List.filter_append, List.length_append]
theorem markF_app {a b : List (Int × Int)} {m : Int} : markF (a ++ b) m = markF a m ++ markF b m := by unfold markF; rw [List.filter_append, List.map_append]
theorem rowT_load (hA : AscM l) {i m : Nat} (hm : m < l.length) : ∀ {k : Nat}, k ≤ l.length → loadF (rowT l s A i k) (idF l m) = if m < k then (A i m).toNat else 0
  | 0, _ => rfl
  | k + 1, hk => by
    rw [rowT_next, loadF_app, rowT_load hA hm (by omega)]
    rcases Nat.lt_trichotomy m k with g | g | g
    · rw [if_pos g, if_pos (show m < k + 1 by omega)]
      have hne : ¬ idF l k = idF l m := fun e => by have := idF_inj hA (by omega) hm e; omega
      cases A i k <;> simp [loadF, hne]
    · subst g
      rw [if_neg (show ¬ m < m by omega), if_pos (show m < m + 1 by omega)]
      cases A i m <;> simp [loadF]
    · rw [if_neg (show ¬ m < k by omega), if_neg (show ¬ m < k + 1 by omega)]
      have hne : ¬ idF l k = idF l m := fun e => by have := idF_inj hA (by omega) hm e; omega
      cases A i k <;> simp [loadF, hne]
theorem tasksT_load (hA : AscM l) {m : Nat} (hm : m < l.length) : ∀ {n : Nat}, loadF (tasksT l s A n) (idF l m) = colN n A m
  | 0 => rfl
  | n + 1 => by
    rw [tasksT_next, loadF_app, tasksT_load hA hm, rowT_load hA hm (Nat.le_refl _), if_pos hm]; rfl
theorem rowT_fst {i : Nat} : ∀ {k : Nat}, ∀ t ∈ rowT l s A i k, t.1 = numF s i ∧ ∃ m, m < k ∧ t.2 = idF l m ∧ A i m = true
  | 0, t, h => by simp [rowT] at h
  | k + 1, t, h => by
    rw [rowT_next, List.mem_append] at h
    rcases h with h | h
    · obtain ⟨h1, m, h2, h3⟩ := rowT_fst t h
      exact ⟨h1, m, by omega, h3⟩
    · split at h
      · next g =>
        simp only [List.mem_singleton] at h
        subst h; exact ⟨rfl, k, by omega, rfl, g⟩
      · simp at h
theorem tasksT_mem : ∀ {n : Nat}, ∀ t ∈ tasksT l s A n, ∃ i m, i < n ∧ m < l.length ∧ t = (numF s i, idF l m) ∧ A i m = true
  | 0, t, h => by simp [tasksT] at h
  | n + 1, t, h => by
    rw [tasksT_next, List.mem_append] at h
    rcases h with h | h
    · obtain ⟨i, m, h1, h2⟩ := tasksT_mem t h
      exact ⟨i, m, by omega, h2⟩
    · obtain ⟨h1, m, h2, h3, h4⟩ := rowT_fst t h
      exact ⟨n, m, by omega, h2, Prod.ext h1 h3, h4⟩
theorem markF_row {i : Nat} {k : Nat} : markF (rowT l s A i k) (numF s i) = (rowT l s A i k).map (·.2) := by
  unfold markF; rw [List.filter_eq_self.2 fun t ht => by simpa using (rowT_fst t ht).1]
theorem markF_none {ts : List (Int × Int)} {n : Int} (h : ∀ t ∈ ts, t.1 ≠ n) : markF ts n = [] := by
  unfold markF; rw [List.filter_eq_nil_iff.2 fun t ht => by simpa using h t ht]; rfl
theorem tasksT_mark (hA : AscS s) {i : Nat} (hi : i < s.length) : ∀ {n : Nat}, n ≤ s.length → (markF (tasksT l s A n) (numF s i)).length = if i < n then rowN l.length A i else 0
  | 0, _ => rfl
  | n + 1, hn => by
    rw [tasksT_next, markF_app, List.length_append, tasksT_mark hA hi (by omega)]
    rcases Nat.lt_trichotomy i n with g | g | g
    · rw [if_pos g, if_pos (by omega), markF_none fun t ht => by
        rw [(rowT_fst t ht).1]; have := numF_lt hA g (by omega); omega]
      rfl
    · subst g
      rw [if_neg (by omega), if_pos (by omega), markF_row, List.length_map, rowT_sum]
      show 0 + _ = _
      unfold rowN; omega
    · rw [if_neg (by omega), if_neg (by omega), markF_none fun t ht => by
        rw [(rowT_fst t ht).1]; have := numF_lt hA g hi; omega]
      rfl
def ltT (a b : Int × Int) : Prop := a.1 < b.1 ∨ (a.1 = b.1 ∧ a.2 < b.2)
theorem cmpT_lt {a b : Int × Int} (h : ltT a b) : cmpT a b < 0 := by
  unfold cmpT
  simp only [orF]
  rcases h with h | ⟨h1, h2⟩
  · have := cmp_lt.2 h
    rw [if_neg (by omega)]; exact this
  · have e := cmp_eq.2 h1
    have := cmp_lt.2 h2
    rw [if_pos e, if_neg (by omega)]; exact this
theorem rowT_asc (hA : AscM l) {i : Nat} : ∀ {k : Nat}, k ≤ l.length → (rowT l s A i k).Pairwise ltT
  | 0, _ => List.Pairwise.nil
  | k + 1, hk => by
    rw [rowT_next, List.pairwise_append]
    refine ⟨rowT_asc hA (by omega), by split <;> simp, fun a ha b hb => ?_⟩
    obtain ⟨h1, m, h2, h3, -⟩ := rowT_fst a ha
    split at hb
    · simp only [List.mem_singleton] at hb
      subst hb
      exact .inr ⟨h1, by rw [h3]; exact idF_lt hA h2 (by omega)⟩
    · simp at hb
theorem tasksT_asc (hA : AscM l) (hS : AscS s) : ∀ {n : Nat}, n ≤ s.length → (tasksT l s A n).Pairwise ltT
  | 0, _ => List.Pairwise.nil
  | n + 1, hn => by
    rw [tasksT_next, List.pairwise_append]
    refine ⟨tasksT_asc hA hS (by omega), rowT_asc hA (Nat.le_refl _), fun a ha b hb => ?_⟩
    obtain ⟨i, m, h1, h2, rfl, -⟩ := tasksT_mem a ha
    exact .inl (by rw [(rowT_fst b hb).1]; exact numF_lt hS h1 (by omega))
theorem findS_num (hA : AscS s) {i : Nat} (hi : i < s.length) : findS s (numF s i) = some i := by
  obtain ⟨x, hx⟩ : ∃ x, s[i]? = some x := ⟨_, List.getElem?_eq_getElem hi⟩
  exact idx_some (fun k y hk hy => by have := asc_lt hA hy hx hk; rw [numF_at hx]; omega) hx (numF_at hx).symm
theorem elig_task (hl : MksOk l) {lim : Nat → Nat} {F : Flw} (hF : WF (elF l s) lim s.length l.length F) {i m : Nat} (hi : i < s.length) (hm : m < l.length) (hA : F.A i m = true) {x : Scr} (hx : s[i]? = some x) : eligB l (idF l m) x = true := by
  obtain ⟨k, hk⟩ : ∃ k, l[m]? = some k := ⟨_, List.getElem?_eq_getElem hm⟩
  rw [idF_at hk, elig_own hl.asc hk, ← elF_at hx hk]
  exact hF.el i m hi hm hA
theorem alloc_err (hl : MksOk l) (hs : ScsOk s) {lim : Nat → Nat} {F : Flw} (hF : WF (elF l s) lim s.length l.length F) : ∀ j, taskE l s (tasksT l s F.A s.length) j = 0 := fun j => by
  unfold taskE
  cases ht : (tasksT l s F.A s.length)[j]? with
  | none => rfl
  | some t =>
    obtain ⟨i, m, h1, h2, rfl, h4⟩ := tasksT_mem t (List.mem_of_getElem? ht)
    obtain ⟨x, hx⟩ : ∃ x, s[i]? = some x := ⟨_, List.getElem?_eq_getElem h1⟩
    simp only [findS_num hs.asc h1, hx, elig_task hl hF h1 h2 h4 hx]
    rw [if_neg (by simp), if_neg]
    rintro ⟨g1, g2⟩
    obtain ⟨y, hy⟩ : ∃ y, (tasksT l s F.A s.length)[j - 1]? = some y := ⟨_, List.getElem?_eq_getElem (by have := (List.getElem?_eq_some_iff.1 ht).1; omega)⟩
    have hp := List.pairwise_iff_getElem.1 (tasksT_asc (A := F.A) hl.asc hs.asc (Nat.le_refl _)) (j - 1) j (List.getElem?_eq_some_iff.1 hy).1 (List.getElem?_eq_some_iff.1 ht).1 (by omega)
    rw [(List.getElem?_eq_some_iff.1 hy).2, (List.getElem?_eq_some_iff.1 ht).2] at hp
    rw [List.getD_eq_getElem?_getD, hy] at g2
    have := cmpT_lt hp
    simp only [Option.getD_some] at g2
    omega
theorem firstE_zero {f : Nat → Int} (h : ∀ j, f j = 0) : ∀ n, firstE f n = 0
  | 0 => rfl
  | n + 1 => by rw [firstE, if_pos (firstE_zero h n), h]
theorem alloc_len {q a : Nat} {F : Flw} (hU : Upto (elF l s) (limF (capF l) a) s.length l.length q s.length F) : (tasksT l s F.A s.length).length = s.length * q := by
  rw [tasksT_sum]; exact sumN_const fun i hi => by rw [hU.row i hi, if_pos hi]
theorem alloc_load {q a : Nat} {F : Flw} (hl : MksOk l) (hU : Upto (elF l s) (limF (capF l) a) s.length l.length q s.length F) {m : Nat} {k : Mrk} (hk : l[m]? = some k) : loadF (tasksT l s F.A s.length) k.id = colN s.length F.A m ∧ colN s.length F.A m ≤ a ∧ (colN s.length F.A m : Int) ≤ k.cap := by
  have hm := (List.getElem?_eq_some_iff.1 hk).1
  have h1 := hU.wf.lim m hm
  rw [← hU.wf.col m hm] at h1
  simp only [limF, capF_at hk] at h1
  have hc := (hl.all m k hk).cap
  refine ⟨?_, by omega, by omega⟩
  rw [← idF_at hk]; exact tasksT_load hl.asc hm
theorem alloc_check {q a : Nat} {F : Flw} (hl : MksOk l) (hs : ScsOk s) (hq1 : 1 ≤ q) (hq2 : q ≤ 2) (hU : Upto (elF l s) (limF (capF l) a) s.length l.length q s.length F) : checkV l s q (tasksT l s F.A s.length) = 0 := by
  have h60 := hs.len
  have hlen := alloc_len hU
  have h120 : s.length * q ≤ 60 * 2 := Nat.mul_le_mul h60 hq2
  rw [checkV, if_neg (by simp [okK]; omega), if_neg (by omega), if_neg (by rw [firstE_zero (alloc_err hl hs hU.wf)]; simp), if_neg, if_neg]
  · unfold overB
    rw [Bool.not_eq_true, List.any_eq_false]
    intro k hk
    obtain ⟨m, hm⟩ := List.getElem?_of_mem hk
    have := alloc_load hl hU hm
    simp only [decide_eq_true_eq]; omega
  · unfold shareB anyK
    rw [Bool.not_eq_true, List.any_eq_false]
    intro x hx
    simp only [List.mem_map, List.mem_range] at hx
    obtain ⟨p, hp, rfl⟩ := hx
    unfold cntS
    rw [List.take_length, tasksT_mark hs.asc hp (Nat.le_refl _), if_pos hp, hU.row p hp, if_pos hp]
    simp
end
end Go.Proofs.Ytpmoflggmdfmnaa
end

/- Layer 25: a script by its number, a marker by the number, who may mark: of the reference. -/
section
namespace Go.Proofs.Ytpmoflggmdfmnaa
set_option linter.unusedVariables false
set_option linter.unusedSimpArgs false
set_option linter.unnecessarySimpa false
set_option linter.unusedSectionVars false
set_option maxRecDepth 10000
open Go.RowKit
def scr0R : AV := .agg (encR ⟨0, 0, 0, 0, 0, [], []⟩)
def ScriptR (s : List Scr) (n : Int) (r : AV) : Prop := match findS s n with
  | some i => ∃ x, s[i]? = some x ∧ r = .tup [.agg (encR x), .bool true]
  | none => r = .tup [scr0R, .bool false]
theorem rScript_ok (s : List Scr) (n : Int) (hs : ScsOk s) : Good Try.prog TT false 50 [scrsV s, .int .i64 n] (ScriptR s n) := by
  have LS : (s.map encR).length = s.length := List.length_map ..
  have h60 := hs.len
  refine good_of mixed tabOk Try.func50 rfl rfl Try.ntmps50 Try.results50 rfl rfl ?_
  (conv => whnf); (repeat' (first | (refine arith_i ⟨by omega, by omega⟩ ?_; conv => whnf) | (refine arith_u ⟨by omega, by omega⟩ ?_; conv => whnf) | (refine arith_8 ⟨by omega, by omega⟩ ?_; conv => whnf) | (refine need_i (by first | omega | (simp only [List.length_cons, List.length_nil]; omega) | (simp only [List.length_append, List.length_cons, List.length_nil, List.length_map, List.length_replicate, List.length_modify]; omega)) ?_; conv => whnf) | ((with_reducible first | refine branch_tt ?_ | refine branch_ff ?_); conv => whnf) | (with_reducible refine branch_not ?_) | ((with_reducible first | refine slc_e ?_ | refine callS_a ?_ | refine bld_a ?_ | refine own_e ?_ | refine mkmap_b ?_); conv => whnf) | ((with_reducible first | refine branch_d (fun hq => ?_) (fun hq => ?_) | refine branch_e (fun hq => ?_) (fun hq => ?_) | refine branch_n (fun hq => ?_) (fun hq => ?_) | refine branch_i (fun hq => ?_) (fun hq => ?_)) <;> (try (exfalso; omega)) <;> (conv => whnf))))
  refine loop_i (fun k : Nat => k ≤ s.length ∧ ∀ (i : Nat) (x : Scr), i < k → s[i]? = some x → x.number ≠ n) (fun k => mkSt [(0, scrsV s), (1, .int .i64 n), (4, .ptr 4 0), (6, .int .i64 k)] [(4, [.int .i64 0, .int .i64 0, .int .i64 0, .int .i64 0, .int .i64 0, .nil, .nil])] false) (fun k => s.length - k) 0 ⟨Nat.zero_le _, fun i x h => absurd h (by omega)⟩ (le_mk ⟨rfl, rfl, rfl, rfl, trivial⟩ ⟨rfl, trivial⟩ rfl) ?_
  rintro k ⟨hk, hall⟩
  rcases Nat.lt_or_ge k s.length with hkl | hkl
  · obtain ⟨x, hx⟩ : ∃ x, s[k]? = some x := ⟨_, List.getElem?_eq_getElem hkl⟩
    (conv => whnf); (repeat' (first | (refine arith_i ⟨by omega, by omega⟩ ?_; conv => whnf) | (refine arith_u ⟨by omega, by omega⟩ ?_; conv => whnf) | (refine arith_8 ⟨by omega, by omega⟩ ?_; conv => whnf) | (refine need_i (by first | omega | (simp only [List.length_cons, List.length_nil]; omega) | (simp only [List.length_append, List.length_cons, List.length_nil, List.length_map, List.length_replicate, List.length_modify]; omega)) ?_; conv => whnf) | ((with_reducible first | refine branch_tt ?_ | refine branch_ff ?_); conv => whnf) | (with_reducible refine branch_not ?_) | ((refine idx_cs hx ?_); conv => whnf) | ((with_reducible first | refine slc_e ?_ | refine callS_a ?_ | refine bld_a ?_ | refine own_e ?_ | refine mkmap_b ?_); conv => whnf) | ((with_reducible first | refine branch_d (fun hq => ?_) (fun hq => ?_) | refine branch_e (fun hq => ?_) (fun hq => ?_) | refine branch_n (fun hq => ?_) (fun hq => ?_) | refine branch_i (fun hq => ?_) (fun hq => ?_)) <;> (try (exfalso; omega)) <;> (conv => whnf))))
    · have e : findS s n = some k := by
        rw [findS, List.findIdx?_eq_some_iff_getElem]
        obtain ⟨h1, h2⟩ := List.getElem?_eq_some_iff.1 hx
        exact ⟨h1, by rw [h2]; simpa using hq, fun j hj => by simpa using hall j _ hj (List.getElem?_eq_getElem (by omega))⟩
      exact ret_t (rs := [.agg (encR x), .bool true]) ⟨.inr ⟨_, _, rfl, rfl, rc_p rfl, rc_p rfl, rc_p rfl, rc_p rfl, rc_p rfl, rc_p rfl, rc_p rfl, trivial⟩, (rc_p rfl).g, trivial⟩ (by unfold ScriptR; rw [e]; exact ⟨x, hx, rfl⟩)
    · refine ⟨k + 1, ⟨by omega, fun i y hi hy => ?_⟩, (le_mk (by repeat' (first | exact trivial | rfl | apply And.intro)) (by repeat' (first | exact trivial | rfl | apply And.intro)) rfl), by omega⟩
      rcases Nat.lt_or_ge i k with h' | h'
      · exact hall i y h' hy
      · obtain rfl : i = k := by omega
        rw [hx] at hy; injection hy with hy; rw [← hy]; assumption
  · (conv => whnf); (repeat' (first | (refine arith_i ⟨by omega, by omega⟩ ?_; conv => whnf) | (refine arith_u ⟨by omega, by omega⟩ ?_; conv => whnf) | (refine arith_8 ⟨by omega, by omega⟩ ?_; conv => whnf) | (refine need_i (by first | omega | (simp only [List.length_cons, List.length_nil]; omega) | (simp only [List.length_append, List.length_cons, List.length_nil, List.length_map, List.length_replicate, List.length_modify]; omega)) ?_; conv => whnf) | ((with_reducible first | refine branch_tt ?_ | refine branch_ff ?_); conv => whnf) | (with_reducible refine branch_not ?_) | ((with_reducible first | refine slc_e ?_ | refine callS_a ?_ | refine bld_a ?_ | refine own_e ?_ | refine mkmap_b ?_); conv => whnf) | ((with_reducible first | refine branch_d (fun hq => ?_) (fun hq => ?_) | refine branch_e (fun hq => ?_) (fun hq => ?_) | refine branch_n (fun hq => ?_) (fun hq => ?_) | refine branch_i (fun hq => ?_) (fun hq => ?_)) <;> (try (exfalso; omega)) <;> (conv => whnf))))
    have e : findS s n = none := by
      rw [findS, List.findIdx?_eq_none_iff]
      intro x hm
      obtain ⟨i, hi⟩ := List.getElem?_of_mem hm
      have := hall i x (by have := (List.getElem?_eq_some_iff.1 hi).1; omega) hi
      simpa using this
    exact ret_t (rs := [scr0R, .bool false]) ⟨.inr ⟨_, _, rfl, rfl, rc_p rfl, rc_p rfl, rc_p rfl, rc_p rfl, rc_p rfl, rc_n, rc_n, trivial⟩, (rc_p rfl).g, trivial⟩ (by unfold ScriptR; rw [e])
theorem rFind_ok (l : List Mrk) (id : Int) (hl : MksOk l) : Good Try.prog TT false 74 [mrksV l, .int .i64 id] (· = foundV (findM l id)) := by
  have LL : (l.map encM).length = l.length := List.length_map ..
  have h16 := hl.len
  refine good_of mixed tabOk Try.func74 rfl rfl Try.ntmps74 Try.results74 rfl rfl ?_
  (conv => whnf); (repeat' (first | (refine arith_i ⟨by omega, by omega⟩ ?_; conv => whnf) | (refine arith_u ⟨by omega, by omega⟩ ?_; conv => whnf) | (refine arith_8 ⟨by omega, by omega⟩ ?_; conv => whnf) | (refine need_i (by first | omega | (simp only [List.length_cons, List.length_nil]; omega) | (simp only [List.length_append, List.length_cons, List.length_nil, List.length_map, List.length_replicate, List.length_modify]; omega)) ?_; conv => whnf) | ((with_reducible first | refine branch_tt ?_ | refine branch_ff ?_); conv => whnf) | (with_reducible refine branch_not ?_) | ((with_reducible first | refine slc_e ?_ | refine callS_a ?_ | refine bld_a ?_ | refine own_e ?_ | refine mkmap_b ?_); conv => whnf) | ((with_reducible first | refine branch_d (fun hq => ?_) (fun hq => ?_) | refine branch_e (fun hq => ?_) (fun hq => ?_) | refine branch_n (fun hq => ?_) (fun hq => ?_) | refine branch_i (fun hq => ?_) (fun hq => ?_)) <;> (try (exfalso; omega)) <;> (conv => whnf))))
  refine loop_i (fun k : Nat => k ≤ l.length ∧ ∀ (i : Nat) (x : Mrk), i < k → l[i]? = some x → x.id ≠ id) (fun k => mkSt [(0, mrksV l), (1, .int .i64 id), (4, .ptr 4 0), (6, .int .i64 k)] [(4, [.int .i64 0, .int .i64 0, .int .i64 0, .int .i64 0, .nil])] false) (fun k => l.length - k) 0 ⟨Nat.zero_le _, fun i x h => absurd h (by omega)⟩ (le_mk ⟨rfl, rfl, rfl, rfl, trivial⟩ ⟨rfl, trivial⟩ rfl) ?_
  rintro k ⟨hk, hall⟩
  rcases Nat.lt_or_ge k l.length with hkl | hkl
  · obtain ⟨x, hx⟩ : ∃ x, l[k]? = some x := ⟨_, List.getElem?_eq_getElem hkl⟩
    (conv => whnf); (repeat' (first | (refine arith_i ⟨by omega, by omega⟩ ?_; conv => whnf) | (refine arith_u ⟨by omega, by omega⟩ ?_; conv => whnf) | (refine arith_8 ⟨by omega, by omega⟩ ?_; conv => whnf) | (refine need_i (by first | omega | (simp only [List.length_cons, List.length_nil]; omega) | (simp only [List.length_append, List.length_cons, List.length_nil, List.length_map, List.length_replicate, List.length_modify]; omega)) ?_; conv => whnf) | ((with_reducible first | refine branch_tt ?_ | refine branch_ff ?_); conv => whnf) | (with_reducible refine branch_not ?_) | ((refine idx_cs hx ?_); conv => whnf) | ((with_reducible first | refine slc_e ?_ | refine callS_a ?_ | refine bld_a ?_ | refine own_e ?_ | refine mkmap_b ?_); conv => whnf) | ((with_reducible first | refine branch_d (fun hq => ?_) (fun hq => ?_) | refine branch_e (fun hq => ?_) (fun hq => ?_) | refine branch_n (fun hq => ?_) (fun hq => ?_) | refine branch_i (fun hq => ?_) (fun hq => ?_)) <;> (try (exfalso; omega)) <;> (conv => whnf))))
    · have e : findM l id = some x := by
        unfold findM
        rw [List.find?_eq_some_iff_getElem]
        obtain ⟨h1, h2⟩ := List.getElem?_eq_some_iff.1 hx
        exact ⟨by simpa using hq, k, h1, h2, fun j hj => by simpa using hall j _ hj (List.getElem?_eq_getElem (by omega))⟩
      exact ret_t (rs := [.agg (encM x), .bool true]) ⟨.inr ⟨_, _, rfl, rfl, rc_p rfl, rc_p rfl, rc_p rfl, rc_p rfl, rc_p rfl, trivial⟩, (rc_p rfl).g, trivial⟩ (by rw [e]; rfl)
    · refine ⟨k + 1, ⟨by omega, fun i y hi hy => ?_⟩, (le_mk (by repeat' (first | exact trivial | rfl | apply And.intro)) (by repeat' (first | exact trivial | rfl | apply And.intro)) rfl), by omega⟩
      rcases Nat.lt_or_ge i k with h' | h'
      · exact hall i y h' hy
      · obtain rfl : i = k := by omega
        rw [hx] at hy; injection hy with hy; rw [← hy]; assumption
  · (conv => whnf); (repeat' (first | (refine arith_i ⟨by omega, by omega⟩ ?_; conv => whnf) | (refine arith_u ⟨by omega, by omega⟩ ?_; conv => whnf) | (refine arith_8 ⟨by omega, by omega⟩ ?_; conv => whnf) | (refine need_i (by first | omega | (simp only [List.length_cons, List.length_nil]; omega) | (simp only [List.length_append, List.length_cons, List.length_nil, List.length_map, List.length_replicate, List.length_modify]; omega)) ?_; conv => whnf) | ((with_reducible first | refine branch_tt ?_ | refine branch_ff ?_); conv => whnf) | (with_reducible refine branch_not ?_) | ((with_reducible first | refine slc_e ?_ | refine callS_a ?_ | refine bld_a ?_ | refine own_e ?_ | refine mkmap_b ?_); conv => whnf) | ((with_reducible first | refine branch_d (fun hq => ?_) (fun hq => ?_) | refine branch_e (fun hq => ?_) (fun hq => ?_) | refine branch_n (fun hq => ?_) (fun hq => ?_) | refine branch_i (fun hq => ?_) (fun hq => ?_)) <;> (try (exfalso; omega)) <;> (conv => whnf))))
    have e : findM l id = none := by
      unfold findM
      rw [List.find?_eq_none]
      intro x hm
      obtain ⟨i, hi⟩ := List.getElem?_of_mem hm
      have := hall i x (by have := (List.getElem?_eq_some_iff.1 hi).1; omega) hi
      simpa using this
    exact ret_t (rs := [.agg (encM ⟨0, 0, 0, 0, []⟩), .bool false]) ⟨.inr ⟨_, _, rfl, rfl, rc_p rfl, rc_p rfl, rc_p rfl, rc_p rfl, rc_n, trivial⟩, (rc_p rfl).g, trivial⟩ (by rw [e]; rfl)
theorem rElig_ok (l : List Mrk) (id : Int) (s : Scr) (hl : MksOk l) : Good Try.prog TT false 36 [mrksV l, .int .i64 id, .agg (encR s)] (· = .bool (eligB l id s)) := by
  cases hf : findM l id with
  | none =>
    have e : eligB l id s = false := by rw [eligB, hf]
    rw [e]
    refine good_of mixed tabOk Try.func36 rfl rfl Try.ntmps36 Try.results36 rfl rfl ?_
    (conv => whnf); (repeat' (first | (refine arith_i ⟨by omega, by omega⟩ ?_; conv => whnf) | (refine arith_u ⟨by omega, by omega⟩ ?_; conv => whnf) | (refine arith_8 ⟨by omega, by omega⟩ ?_; conv => whnf) | (refine need_i (by first | omega | (simp only [List.length_cons, List.length_nil]; omega) | (simp only [List.length_append, List.length_cons, List.length_nil, List.length_map, List.length_replicate, List.length_modify]; omega)) ?_; conv => whnf) | ((with_reducible first | refine branch_tt ?_ | refine branch_ff ?_); conv => whnf) | (with_reducible refine branch_not ?_) | ((refine call_e ((rFind_ok l id hl).mono fun r h => (by rw [h, hf]; rfl : r = .tup [.agg (encM ⟨0, 0, 0, 0, []⟩), .bool false])) ?_); conv => whnf) | ((with_reducible first | refine slc_e ?_ | refine callS_a ?_ | refine bld_a ?_ | refine own_e ?_ | refine mkmap_b ?_); conv => whnf) | ((with_reducible first | refine branch_d (fun hq => ?_) (fun hq => ?_) | refine branch_e (fun hq => ?_) (fun hq => ?_) | refine branch_n (fun hq => ?_) (fun hq => ?_) | refine branch_i (fun hq => ?_) (fun hq => ?_)) <;> (try (exfalso; omega)) <;> (conv => whnf))))
    all_goals exact ret_p rfl rfl
  | some m =>
    have e : eligB l id s = mayB m s := by rw [eligB, hf]
    have hp : m.papers.length ≤ 1000 := (hl.all _ m (List.getElem?_of_mem (List.mem_of_find?_eq_some hf)).choose_spec).len
    rw [e]
    refine good_of mixed tabOk Try.func36 rfl rfl Try.ntmps36 Try.results36 rfl rfl ?_
    (conv => whnf); (repeat' (first | (refine arith_i ⟨by omega, by omega⟩ ?_; conv => whnf) | (refine arith_u ⟨by omega, by omega⟩ ?_; conv => whnf) | (refine arith_8 ⟨by omega, by omega⟩ ?_; conv => whnf) | (refine need_i (by first | omega | (simp only [List.length_cons, List.length_nil]; omega) | (simp only [List.length_append, List.length_cons, List.length_nil, List.length_map, List.length_replicate, List.length_modify]; omega)) ?_; conv => whnf) | ((with_reducible first | refine branch_tt ?_ | refine branch_ff ?_); conv => whnf) | (with_reducible refine branch_not ?_) | ((refine call_e ((rFind_ok l id hl).mono fun r h => (by rw [h, hf]; rfl : r = .tup [.agg (encM m), .bool true])) ?_); conv => whnf) | ((refine call_e (fits_ok m s hp) ?_); conv => whnf) | ((with_reducible first | refine slc_e ?_ | refine callS_a ?_ | refine bld_a ?_ | refine own_e ?_ | refine mkmap_b ?_); conv => whnf) | ((with_reducible first | refine branch_d (fun hq => ?_) (fun hq => ?_) | refine branch_e (fun hq => ?_) (fun hq => ?_) | refine branch_n (fun hq => ?_) (fun hq => ?_) | refine branch_i (fun hq => ?_) (fun hq => ?_)) <;> (try (exfalso; omega)) <;> (conv => whnf))))
    all_goals exact ret_p rfl rfl
end Go.Proofs.Ytpmoflggmdfmnaa
end

/- Layer 25: Check of the reference. -/
section
namespace Go.Proofs.Ytpmoflggmdfmnaa
set_option linter.unusedVariables false
set_option linter.unusedSimpArgs false
set_option linter.unnecessarySimpa false
set_option linter.unusedSectionVars false
set_option maxRecDepth 10000
open Go.RowKit
def plGL25F_0 : Plan := (.take 0 (.take 1 (.take 2 (.take 3 (.take 4 (.take 5 (.take 6 (.alt 7 (.take 8 (.take 9 .done)) .stop))))))))
def plGL25F_1 : Plan := (.take 0 (.take 1 (.take 2 (.take 3 (.take 4 (.take 6 (.alt 5 (.alt 7 (.take 8 (.take 9 .done)) .stop) .stop)))))))
def plGL25F_2 : Plan := (.take 0 (.take 1 (.take 2 (.take 3 (.take 4 (.alt 5 (.alt 6 (.alt 7 (.take 8 (.take 9 .done)) .stop) .stop) (.alt 6 (.alt 5 (.alt 7 (.take 8 (.take 9 .done)) .stop) .stop) .stop)))))))
def plGL25F_3 : Plan := (.take 0 (.take 1 (.take 2 (.take 3 (.take 4 (.take 5 (.take 6 (.take 7 (.take 8 (.take 9 (.take 10 (.take 11 (.take 12 (.take 13 (.take 14 (.take 15 (.take 16 (.take 17 (.take 18 (.take 19 (.take 20 (.take 21 (.take 22 (.take 23 (.take 24 (.take 25 (.take 26 (.take 27 (.take 28 (.take 29 (.take 30 (.take 31 (.take 32 (.take 33 (.take 34 (.take 35 (.take 36 (.take 37 (.take 38 (.take 39 (.take 40 (.take 41 (.take 42 (.take 43 (.take 44 .done)))))))))))))))))))))))))))))))))))))))))))))
def plGL25F_4 : Plan := (.take 0 (.take 1 (.take 2 (.take 3 (.take 4 (.take 5 (.take 6 (.take 8 (.take 9 (.take 10 (.take 11 (.take 12 (.alt 7 (.alt 13 (.take 14 (.take 15 (.take 16 (.take 17 (.take 18 (.take 19 (.take 21 (.take 22 (.take 23 (.take 24 (.take 25 (.alt 20 (.alt 26 (.take 27 (.take 28 (.take 29 (.take 30 (.take 31 (.take 32 (.take 34 (.take 35 (.take 36 (.take 37 (.take 38 (.alt 33 (.alt 39 (.take 40 (.take 41 (.take 42 (.take 43 (.take 44 .done))))) .stop) (.alt 39 (.alt 33 (.take 40 (.take 41 (.take 42 (.take 43 (.take 44 .done))))) .stop) .stop))))))))))))) .stop) (.alt 26 (.alt 20 (.take 27 (.take 28 (.take 29 (.take 30 (.take 31 (.take 32 (.take 34 (.take 35 (.take 36 (.take 37 (.take 38 (.alt 33 (.alt 39 (.take 40 (.take 41 (.take 42 (.take 43 (.take 44 .done))))) .stop) (.alt 39 (.alt 33 (.take 40 (.take 41 (.take 42 (.take 43 (.take 44 .done))))) .stop) .stop))))))))))))) .stop) .stop))))))))))))) .stop) (.alt 13 (.alt 7 (.take 14 (.take 15 (.take 16 (.take 17 (.take 18 (.take 19 (.take 21 (.take 22 (.take 23 (.take 24 (.take 25 (.alt 20 (.alt 26 (.take 27 (.take 28 (.take 29 (.take 30 (.take 31 (.take 32 (.take 34 (.take 35 (.take 36 (.take 37 (.take 38 (.alt 33 (.alt 39 (.take 40 (.take 41 (.take 42 (.take 43 (.take 44 .done))))) .stop) (.alt 39 (.alt 33 (.take 40 (.take 41 (.take 42 (.take 43 (.take 44 .done))))) .stop) .stop))))))))))))) .stop) (.alt 26 (.alt 20 (.take 27 (.take 28 (.take 29 (.take 30 (.take 31 (.take 32 (.take 34 (.take 35 (.take 36 (.take 37 (.take 38 (.alt 33 (.alt 39 (.take 40 (.take 41 (.take 42 (.take 43 (.take 44 .done))))) .stop) (.alt 39 (.alt 33 (.take 40 (.take 41 (.take 42 (.take 43 (.take 44 .done))))) .stop) .stop))))))))))))) .stop) .stop))))))))))))) .stop) .stop))))))))))))))
def plGL25F_5 : Plan := (.take 0 (.take 1 (.take 2 (.take 3 (.take 4 (.take 5 (.take 7 (.take 8 (.take 9 (.take 10 (.take 11 (.alt 6 (.take 12 .done) .stop))))))))))))
def plGL25F_6 : Plan := (.take 0 (.take 1 (.take 2 (.take 3 (.take 4 (.take 7 (.take 8 (.take 9 (.take 10 (.alt 5 (.alt 6 (.alt 11 (.take 12 .done) .stop) (.alt 11 (.alt 6 (.take 12 .done) .stop) .stop)) (.alt 11 (.alt 5 (.alt 6 (.take 12 .done) .stop) .stop) .stop)))))))))))
theorem cmpT_ge {a b : Int × Int} (h : ¬ (a.1 < b.1 ∨ (a.1 = b.1 ∧ a.2 < b.2))) : 0 ≤ cmpT a b := by
  have h1 := @cmp_lt a.1 b.1
  have h2 := @cmp_lt a.2 b.2
  have h3 := @cmp_eq a.1 b.1
  unfold cmpT
  simp only [orF]
  split
  · next e =>
    split
    · omega
    · have := h3.1 e; omega
  · omega
def shareP (s : List Scr) (k : Int) (ts : List (Int × Int)) (n : Nat) : Bool := anyK ((List.range n).map fun p => ((cntS s ts ts.length p : Nat) : Int)) k
theorem shareP_next {s : List Scr} {k : Int} {ts : List (Int × Int)} {i : Nat} : shareP s k ts (i + 1) = (shareP s k ts i || (((cntS s ts ts.length i : Nat) : Int) != k)) := by
  unfold shareP anyK; rw [List.range_succ, List.map_append, List.any_append]; simp
theorem shareP_true {s : List Scr} {k : Int} {ts : List (Int × Int)} {i n : Nat} (h : i ≤ n) (h1 : shareP s k ts i = true) : shareP s k ts n = true := by
  induction h with
  | refl => exact h1
  | step _ ih => rw [shareP_next, ih]; rfl
set_option maxHeartbeats 8000000 in
theorem rCheckT_ok (l : List Mrk) (s : List Scr) (k : Int) (ts : List (Int × Int)) (ht : ts.length ≤ 1000) (hl : MksOk l) (hs : ScsOk s) : Good Try.prog TT false 22 [mrksV l, scrsV s, .int .i64 k, tasksV ts] (· = .int .i64 (checkV l s k ts)) := by
  have LL : (l.map encM).length = l.length := List.length_map ..
  have LS : (s.map encR).length = s.length := List.length_map ..
  have LT : (ts.map encT).length = ts.length := List.length_map ..
  have h16 := hl.len
  have h60 := hs.len
  cases hk : okK k with
  | false =>
    rw [checkV, if_pos hk]
    refine good_of mixed tabOk Try.func22 rfl rfl Try.ntmps22 Try.results22 rfl rfl ?_
    (conv => whnf); (repeat' (first | (refine arith_i ⟨by omega, by omega⟩ ?_; conv => whnf) | (refine arith_u ⟨by omega, by omega⟩ ?_; conv => whnf) | (refine arith_8 ⟨by omega, by omega⟩ ?_; conv => whnf) | (refine need_i (by first | omega | (simp only [List.length_cons, List.length_nil]; omega) | (simp only [List.length_append, List.length_cons, List.length_nil, List.length_map, List.length_replicate, List.length_modify]; omega)) ?_; conv => whnf) | ((with_reducible first | refine branch_tt ?_ | refine branch_ff ?_); conv => whnf) | (with_reducible refine branch_not ?_) | ((refine call_e ((rRight_ok l s k hl hs).mono fun r h => h.trans (bool_eq hk)) ?_); conv => whnf) | ((with_reducible first | refine slc_e ?_ | refine callS_a ?_ | refine bld_a ?_ | refine own_e ?_ | refine mkmap_b ?_); conv => whnf) | (refine draw_i 10 plGL25F_0 (by decide +kernel) ?_; (conv => whnf); fail_if_success (guard_target =~ False)) | (refine draw_i 10 plGL25F_1 (by decide +kernel) ?_; (conv => whnf); fail_if_success (guard_target =~ False)) | (refine draw_i 10 plGL25F_2 (by decide +kernel) ?_; (conv => whnf); fail_if_success (guard_target =~ False)) | (refine draw_i 45 plGL25F_3 (by decide +kernel) ?_; (conv => whnf); fail_if_success (guard_target =~ False)) | (refine draw_i 45 plGL25F_4 (by decide +kernel) ?_; (conv => whnf); fail_if_success (guard_target =~ False)) | (refine draw_i 13 plGL25F_5 (by decide +kernel) ?_; (conv => whnf); fail_if_success (guard_target =~ False)) | (refine draw_i 13 plGL25F_6 (by decide +kernel) ?_; (conv => whnf); fail_if_success (guard_target =~ False)) | ((with_reducible refine And.intro ?_ ?_) <;> (conv => whnf)) | (with_reducible exact trivial) | ((with_reducible first | refine branch_d (fun hq => ?_) (fun hq => ?_) | refine branch_e (fun hq => ?_) (fun hq => ?_) | refine branch_n (fun hq => ?_) (fun hq => ?_) | refine branch_i (fun hq => ?_) (fun hq => ?_)) <;> (try (exfalso; omega)) <;> (conv => whnf))))
    exact ret_p rfl rfl
  | true =>
    obtain ⟨q, rfl, hq1, hq2⟩ := okK_in hk
    rw [checkV, if_neg (by simp [hk])]
    refine good_of mixed tabOk Try.func22 rfl rfl Try.ntmps22 Try.results22 rfl rfl ?_
    (conv => whnf); (repeat' (first | (refine arith_i ⟨by omega, by omega⟩ ?_; conv => whnf) | (refine arith_u ⟨by omega, by omega⟩ ?_; conv => whnf) | (refine arith_8 ⟨by omega, by omega⟩ ?_; conv => whnf) | (refine need_i (by first | omega | (simp only [List.length_cons, List.length_nil]; omega) | (simp only [List.length_append, List.length_cons, List.length_nil, List.length_map, List.length_replicate, List.length_modify]; omega)) ?_; conv => whnf) | ((with_reducible first | refine branch_tt ?_ | refine branch_ff ?_); conv => whnf) | (with_reducible refine branch_not ?_) | ((refine call_e ((rRight_ok l s q hl hs).mono fun r h => h.trans (bool_eq hk)) ?_); conv => whnf) | ((with_reducible first | refine slc_e ?_ | refine callS_a ?_ | refine bld_a ?_ | refine own_e ?_ | refine mkmap_b ?_); conv => whnf) | (refine draw_i 10 plGL25F_0 (by decide +kernel) ?_; (conv => whnf); fail_if_success (guard_target =~ False)) | (refine draw_i 10 plGL25F_1 (by decide +kernel) ?_; (conv => whnf); fail_if_success (guard_target =~ False)) | (refine draw_i 10 plGL25F_2 (by decide +kernel) ?_; (conv => whnf); fail_if_success (guard_target =~ False)) | (refine draw_i 45 plGL25F_3 (by decide +kernel) ?_; (conv => whnf); fail_if_success (guard_target =~ False)) | (refine draw_i 45 plGL25F_4 (by decide +kernel) ?_; (conv => whnf); fail_if_success (guard_target =~ False)) | (refine draw_i 13 plGL25F_5 (by decide +kernel) ?_; (conv => whnf); fail_if_success (guard_target =~ False)) | (refine draw_i 13 plGL25F_6 (by decide +kernel) ?_; (conv => whnf); fail_if_success (guard_target =~ False)) | ((with_reducible refine And.intro ?_ ?_) <;> (conv => whnf)) | (with_reducible exact trivial) | ((with_reducible first | refine branch_d (fun hq => ?_) (fun hq => ?_) | refine branch_e (fun hq => ?_) (fun hq => ?_) | refine branch_n (fun hq => ?_) (fun hq => ?_) | refine branch_i (fun hq => ?_) (fun hq => ?_)) <;> (try (exfalso; omega)) <;> (conv => whnf))))
    · rw [if_pos (by omega)]
      exact ret_p rfl rfl
    rw [if_neg (by omega)]
    refine loop_i (fun i : Nat => i ≤ ts.length ∧ firstE (taskE l s ts) i = 0) (fun i => mkSt [(0, mrksV l), (1, scrsV s), (2, .int .i64 q), (3, tasksV ts), (9, .int .i64 i)] [] false) (fun i => ts.length - i) 0 ⟨Nat.zero_le _, rfl⟩ (le_mk ⟨rfl, rfl, rfl, rfl, rfl, trivial⟩ trivial rfl) ?_
    rintro i ⟨hi, h0⟩
    rcases Nat.lt_or_ge i ts.length with hil | hil
    · obtain ⟨t, ht'⟩ : ∃ t, ts[i]? = some t := ⟨_, List.getElem?_eq_getElem hil⟩
      have hstep : firstE (taskE l s ts) (i + 1) = taskE l s ts i := by rw [firstE, if_pos h0]
      have hstop : taskE l s ts i ≠ 0 → firstE (taskE l s ts) ts.length = taskE l s ts i := fun h => by rw [firstE_stop (i := i + 1) (by omega) (by rw [hstep]; exact h), hstep]
      have hE : taskE l s ts i = match findS s t.1 with
        | none => 4
        | some p => match s[p]? with
          | none => 4
          | some x => if eligB l t.2 x = false then 40 else if 0 < i ∧ 0 ≤ cmpT (ts.getD (i - 1) (0, 0)) t then 43 else 0 := by rw [taskE, ht'] <;> rfl
      cases hf : findS s t.1 with
      | none =>
        rw [hf] at hE
        (conv => whnf); (repeat' (first | (refine arith_i ⟨by omega, by omega⟩ ?_; conv => whnf) | (refine arith_u ⟨by omega, by omega⟩ ?_; conv => whnf) | (refine arith_8 ⟨by omega, by omega⟩ ?_; conv => whnf) | (refine need_i (by first | omega | (simp only [List.length_cons, List.length_nil]; omega) | (simp only [List.length_append, List.length_cons, List.length_nil, List.length_map, List.length_replicate, List.length_modify]; omega)) ?_; conv => whnf) | ((with_reducible first | refine branch_tt ?_ | refine branch_ff ?_); conv => whnf) | (with_reducible refine branch_not ?_) | ((refine idx_cs ht' ?_); conv => whnf) | (((refine call_e ((rScript_ok s t.1 hs).mono fun r h => (by unfold ScriptR at h; rw [hf] at h; exact h : r = .tup [scr0R, .bool false])) ?_)); conv => whnf) | ((with_reducible first | refine slc_e ?_ | refine callS_a ?_ | refine bld_a ?_ | refine own_e ?_ | refine mkmap_b ?_); conv => whnf) | (refine draw_i 10 plGL25F_0 (by decide +kernel) ?_; (conv => whnf); fail_if_success (guard_target =~ False)) | (refine draw_i 10 plGL25F_1 (by decide +kernel) ?_; (conv => whnf); fail_if_success (guard_target =~ False)) | (refine draw_i 10 plGL25F_2 (by decide +kernel) ?_; (conv => whnf); fail_if_success (guard_target =~ False)) | (refine draw_i 45 plGL25F_3 (by decide +kernel) ?_; (conv => whnf); fail_if_success (guard_target =~ False)) | (refine draw_i 45 plGL25F_4 (by decide +kernel) ?_; (conv => whnf); fail_if_success (guard_target =~ False)) | (refine draw_i 13 plGL25F_5 (by decide +kernel) ?_; (conv => whnf); fail_if_success (guard_target =~ False)) | (refine draw_i 13 plGL25F_6 (by decide +kernel) ?_; (conv => whnf); fail_if_success (guard_target =~ False)) | ((with_reducible refine And.intro ?_ ?_) <;> (conv => whnf)) | (with_reducible exact trivial) | ((with_reducible first | refine branch_d (fun hq => ?_) (fun hq => ?_) | refine branch_e (fun hq => ?_) (fun hq => ?_) | refine branch_n (fun hq => ?_) (fun hq => ?_) | refine branch_i (fun hq => ?_) (fun hq => ?_)) <;> (try (exfalso; omega)) <;> (conv => whnf))))
        replace hE : taskE l s ts i = 4 := hE
        rw [hstop (by rw [hE]; decide), hE, if_pos (by decide)]
        exact ret_p rfl rfl
      | some p =>
        obtain ⟨x, hx, hn⟩ := findS_at hf
        rw [hf] at hE; simp only [hx] at hE
        have hScr : Good Try.prog TT false 50 [scrsV s, .int .i64 t.1] (· = .tup [.agg (encR x), .bool true]) := (rScript_ok s t.1 hs).mono fun r h => by
          unfold ScriptR at h; rw [hf] at h; obtain ⟨x', hx', h⟩ := h; rw [hx] at hx'; injection hx' with hx'; rw [hx']; exact h
        cases hel : eligB l t.2 x with
        | false =>
          (conv => whnf); (repeat' (first | (refine arith_i ⟨by omega, by omega⟩ ?_; conv => whnf) | (refine arith_u ⟨by omega, by omega⟩ ?_; conv => whnf) | (refine arith_8 ⟨by omega, by omega⟩ ?_; conv => whnf) | (refine need_i (by first | omega | (simp only [List.length_cons, List.length_nil]; omega) | (simp only [List.length_append, List.length_cons, List.length_nil, List.length_map, List.length_replicate, List.length_modify]; omega)) ?_; conv => whnf) | ((with_reducible first | refine branch_tt ?_ | refine branch_ff ?_); conv => whnf) | (with_reducible refine branch_not ?_) | ((refine idx_cs ht' ?_); conv => whnf) | ((refine call_e hScr ?_); conv => whnf) | ((refine call_e ((rElig_ok l t.2 x hl).mono fun r h => h.trans (bool_eq hel)) ?_); conv => whnf) | ((with_reducible first | refine slc_e ?_ | refine callS_a ?_ | refine bld_a ?_ | refine own_e ?_ | refine mkmap_b ?_); conv => whnf) | (refine draw_i 10 plGL25F_0 (by decide +kernel) ?_; (conv => whnf); fail_if_success (guard_target =~ False)) | (refine draw_i 10 plGL25F_1 (by decide +kernel) ?_; (conv => whnf); fail_if_success (guard_target =~ False)) | (refine draw_i 10 plGL25F_2 (by decide +kernel) ?_; (conv => whnf); fail_if_success (guard_target =~ False)) | (refine draw_i 45 plGL25F_3 (by decide +kernel) ?_; (conv => whnf); fail_if_success (guard_target =~ False)) | (refine draw_i 45 plGL25F_4 (by decide +kernel) ?_; (conv => whnf); fail_if_success (guard_target =~ False)) | (refine draw_i 13 plGL25F_5 (by decide +kernel) ?_; (conv => whnf); fail_if_success (guard_target =~ False)) | (refine draw_i 13 plGL25F_6 (by decide +kernel) ?_; (conv => whnf); fail_if_success (guard_target =~ False)) | ((with_reducible refine And.intro ?_ ?_) <;> (conv => whnf)) | (with_reducible exact trivial) | ((with_reducible first | refine branch_d (fun hq => ?_) (fun hq => ?_) | refine branch_e (fun hq => ?_) (fun hq => ?_) | refine branch_n (fun hq => ?_) (fun hq => ?_) | refine branch_i (fun hq => ?_) (fun hq => ?_)) <;> (try (exfalso; omega)) <;> (conv => whnf))))
          rw [hel, if_pos rfl] at hE
          rw [hstop (by rw [hE]; decide), hE, if_pos (by decide)]
          all_goals exact ret_p rfl rfl
        | true =>
          rw [hel, if_neg (by simp)] at hE
          rcases Nat.eq_zero_or_pos i with hz | hz
          · subst hz
            rw [if_neg (by omega)] at hE
            (conv => whnf); (repeat' (first | (refine arith_i ⟨by omega, by omega⟩ ?_; conv => whnf) | (refine arith_u ⟨by omega, by omega⟩ ?_; conv => whnf) | (refine arith_8 ⟨by omega, by omega⟩ ?_; conv => whnf) | (refine need_i (by first | omega | (simp only [List.length_cons, List.length_nil]; omega) | (simp only [List.length_append, List.length_cons, List.length_nil, List.length_map, List.length_replicate, List.length_modify]; omega)) ?_; conv => whnf) | ((with_reducible first | refine branch_tt ?_ | refine branch_ff ?_); conv => whnf) | (with_reducible refine branch_not ?_) | ((refine idx_cs ht' ?_); conv => whnf) | ((refine call_e hScr ?_); conv => whnf) | ((refine call_e ((rElig_ok l t.2 x hl).mono fun r h => h.trans (bool_eq hel)) ?_); conv => whnf) | ((with_reducible first | refine slc_e ?_ | refine callS_a ?_ | refine bld_a ?_ | refine own_e ?_ | refine mkmap_b ?_); conv => whnf) | (refine draw_i 10 plGL25F_0 (by decide +kernel) ?_; (conv => whnf); fail_if_success (guard_target =~ False)) | (refine draw_i 10 plGL25F_1 (by decide +kernel) ?_; (conv => whnf); fail_if_success (guard_target =~ False)) | (refine draw_i 10 plGL25F_2 (by decide +kernel) ?_; (conv => whnf); fail_if_success (guard_target =~ False)) | (refine draw_i 45 plGL25F_3 (by decide +kernel) ?_; (conv => whnf); fail_if_success (guard_target =~ False)) | (refine draw_i 45 plGL25F_4 (by decide +kernel) ?_; (conv => whnf); fail_if_success (guard_target =~ False)) | (refine draw_i 13 plGL25F_5 (by decide +kernel) ?_; (conv => whnf); fail_if_success (guard_target =~ False)) | (refine draw_i 13 plGL25F_6 (by decide +kernel) ?_; (conv => whnf); fail_if_success (guard_target =~ False)) | ((with_reducible refine And.intro ?_ ?_) <;> (conv => whnf)) | (with_reducible exact trivial) | ((with_reducible first | refine branch_d (fun hq => ?_) (fun hq => ?_) | refine branch_e (fun hq => ?_) (fun hq => ?_) | refine branch_n (fun hq => ?_) (fun hq => ?_) | refine branch_i (fun hq => ?_) (fun hq => ?_)) <;> (try (exfalso; omega)) <;> (conv => whnf))))
            all_goals exact ⟨0 + 1, ⟨by omega, by rw [hstep, hE]⟩, (le_mk (by repeat' (first | exact trivial | rfl | apply And.intro)) (by repeat' (first | exact trivial | rfl | apply And.intro)) rfl), by omega⟩
          · obtain ⟨y, hy⟩ : ∃ y, ts[i - 1]? = some y := ⟨_, List.getElem?_eq_getElem (by omega)⟩
            have hgy : ts.getD (i - 1) (0, 0) = y := by simp [List.getD_eq_getElem?_getD, hy]
            rw [hgy] at hE
            by_cases hlt : ltT y t
            · have hc := cmpT_lt hlt
              unfold ltT at hlt
              rw [if_neg (by omega)] at hE
              (conv => whnf); (repeat' (first | (refine arith_i ⟨by omega, by omega⟩ ?_; conv => whnf) | (refine arith_u ⟨by omega, by omega⟩ ?_; conv => whnf) | (refine arith_8 ⟨by omega, by omega⟩ ?_; conv => whnf) | (refine need_i (by first | omega | (simp only [List.length_cons, List.length_nil]; omega) | (simp only [List.length_append, List.length_cons, List.length_nil, List.length_map, List.length_replicate, List.length_modify]; omega)) ?_; conv => whnf) | ((with_reducible first | refine branch_tt ?_ | refine branch_ff ?_); conv => whnf) | (with_reducible refine branch_not ?_) | ((refine idx_cs ht' ?_); conv => whnf) | ((refine call_e hScr ?_); conv => whnf) | ((refine call_e ((rElig_ok l t.2 x hl).mono fun r h => h.trans (bool_eq hel)) ?_); conv => whnf) | ((refine idx_ms (by omega) (by rw [show ((i : Int) - 1).toNat = i - 1 by omega]; exact hy) ?_); conv => whnf) | ((with_reducible first | refine slc_e ?_ | refine callS_a ?_ | refine bld_a ?_ | refine own_e ?_ | refine mkmap_b ?_); conv => whnf) | (refine draw_i 10 plGL25F_0 (by decide +kernel) ?_; (conv => whnf); fail_if_success (guard_target =~ False)) | (refine draw_i 10 plGL25F_1 (by decide +kernel) ?_; (conv => whnf); fail_if_success (guard_target =~ False)) | (refine draw_i 10 plGL25F_2 (by decide +kernel) ?_; (conv => whnf); fail_if_success (guard_target =~ False)) | (refine draw_i 45 plGL25F_3 (by decide +kernel) ?_; (conv => whnf); fail_if_success (guard_target =~ False)) | (refine draw_i 45 plGL25F_4 (by decide +kernel) ?_; (conv => whnf); fail_if_success (guard_target =~ False)) | (refine draw_i 13 plGL25F_5 (by decide +kernel) ?_; (conv => whnf); fail_if_success (guard_target =~ False)) | (refine draw_i 13 plGL25F_6 (by decide +kernel) ?_; (conv => whnf); fail_if_success (guard_target =~ False)) | ((with_reducible refine And.intro ?_ ?_) <;> (conv => whnf)) | (with_reducible exact trivial) | ((with_reducible first | refine branch_d (fun hq => ?_) (fun hq => ?_) | refine branch_e (fun hq => ?_) (fun hq => ?_) | refine branch_n (fun hq => ?_) (fun hq => ?_) | refine branch_i (fun hq => ?_) (fun hq => ?_)) <;> (try (exfalso; omega)) <;> (conv => whnf))))
              all_goals exact ⟨i + 1, ⟨by omega, by rw [hstep, hE]⟩, (le_mk (by repeat' (first | exact trivial | rfl | apply And.intro)) (by repeat' (first | exact trivial | rfl | apply And.intro)) rfl), by omega⟩
            · have hc := cmpT_ge hlt
              unfold ltT at hlt
              rw [if_pos ⟨hz, hc⟩] at hE
              rw [hstop (by rw [hE]; decide), hE, if_pos (by decide)]
              (conv => whnf); (repeat' (first | (refine arith_i ⟨by omega, by omega⟩ ?_; conv => whnf) | (refine arith_u ⟨by omega, by omega⟩ ?_; conv => whnf) | (refine arith_8 ⟨by omega, by omega⟩ ?_; conv => whnf) | (refine need_i (by first | omega | (simp only [List.length_cons, List.length_nil]; omega) | (simp only [List.length_append, List.length_cons, List.length_nil, List.length_map, List.length_replicate, List.length_modify]; omega)) ?_; conv => whnf) | ((with_reducible first | refine branch_tt ?_ | refine branch_ff ?_); conv => whnf) | (with_reducible refine branch_not ?_) | ((refine idx_cs ht' ?_); conv => whnf) | ((refine call_e hScr ?_); conv => whnf) | ((refine call_e ((rElig_ok l t.2 x hl).mono fun r h => h.trans (bool_eq hel)) ?_); conv => whnf) | ((refine idx_ms (by omega) (by rw [show ((i : Int) - 1).toNat = i - 1 by omega]; exact hy) ?_); conv => whnf) | ((with_reducible first | refine slc_e ?_ | refine callS_a ?_ | refine bld_a ?_ | refine own_e ?_ | refine mkmap_b ?_); conv => whnf) | (refine draw_i 10 plGL25F_0 (by decide +kernel) ?_; (conv => whnf); fail_if_success (guard_target =~ False)) | (refine draw_i 10 plGL25F_1 (by decide +kernel) ?_; (conv => whnf); fail_if_success (guard_target =~ False)) | (refine draw_i 10 plGL25F_2 (by decide +kernel) ?_; (conv => whnf); fail_if_success (guard_target =~ False)) | (refine draw_i 45 plGL25F_3 (by decide +kernel) ?_; (conv => whnf); fail_if_success (guard_target =~ False)) | (refine draw_i 45 plGL25F_4 (by decide +kernel) ?_; (conv => whnf); fail_if_success (guard_target =~ False)) | (refine draw_i 13 plGL25F_5 (by decide +kernel) ?_; (conv => whnf); fail_if_success (guard_target =~ False)) | (refine draw_i 13 plGL25F_6 (by decide +kernel) ?_; (conv => whnf); fail_if_success (guard_target =~ False)) | ((with_reducible refine And.intro ?_ ?_) <;> (conv => whnf)) | (with_reducible exact trivial) | ((with_reducible first | refine branch_d (fun hq => ?_) (fun hq => ?_) | refine branch_e (fun hq => ?_) (fun hq => ?_) | refine branch_n (fun hq => ?_) (fun hq => ?_) | refine branch_i (fun hq => ?_) (fun hq => ?_)) <;> (try (exfalso; omega)) <;> (conv => whnf))))
              all_goals exact ret_p rfl rfl
    · obtain rfl : i = ts.length := by omega
      rw [if_neg (by rw [h0]; simp)]
      (conv => whnf); (repeat' (first | (refine arith_i ⟨by omega, by omega⟩ ?_; conv => whnf) | (refine arith_u ⟨by omega, by omega⟩ ?_; conv => whnf) | (refine arith_8 ⟨by omega, by omega⟩ ?_; conv => whnf) | (refine need_i (by first | omega | (simp only [List.length_cons, List.length_nil]; omega) | (simp only [List.length_append, List.length_cons, List.length_nil, List.length_map, List.length_replicate, List.length_modify]; omega)) ?_; conv => whnf) | ((with_reducible first | refine branch_tt ?_ | refine branch_ff ?_); conv => whnf) | (with_reducible refine branch_not ?_) | ((with_reducible first | refine slc_e ?_ | refine callS_a ?_ | refine bld_a ?_ | refine own_e ?_ | refine mkmap_b ?_); conv => whnf) | (refine draw_i 10 plGL25F_0 (by decide +kernel) ?_; (conv => whnf); fail_if_success (guard_target =~ False)) | (refine draw_i 10 plGL25F_1 (by decide +kernel) ?_; (conv => whnf); fail_if_success (guard_target =~ False)) | (refine draw_i 10 plGL25F_2 (by decide +kernel) ?_; (conv => whnf); fail_if_success (guard_target =~ False)) | (refine draw_i 45 plGL25F_3 (by decide +kernel) ?_; (conv => whnf); fail_if_success (guard_target =~ False)) | (refine draw_i 45 plGL25F_4 (by decide +kernel) ?_; (conv => whnf); fail_if_success (guard_target =~ False)) | (refine draw_i 13 plGL25F_5 (by decide +kernel) ?_; (conv => whnf); fail_if_success (guard_target =~ False)) | (refine draw_i 13 plGL25F_6 (by decide +kernel) ?_; (conv => whnf); fail_if_success (guard_target =~ False)) | ((with_reducible refine And.intro ?_ ?_) <;> (conv => whnf)) | (with_reducible exact trivial) | ((with_reducible first | refine branch_d (fun hq => ?_) (fun hq => ?_) | refine branch_e (fun hq => ?_) (fun hq => ?_) | refine branch_n (fun hq => ?_) (fun hq => ?_) | refine branch_i (fun hq => ?_) (fun hq => ?_)) <;> (try (exfalso; omega)) <;> (conv => whnf))))
      refine loop_i (fun i : Nat => i ≤ s.length ∧ shareP s q ts i = false) (fun i => mkSt [(0, mrksV l), (1, scrsV s), (2, .int .i64 q), (3, tasksV ts), (12, .int .i64 i)] [] false) (fun i => s.length - i) 0 ⟨Nat.zero_le _, rfl⟩ (le_mk ⟨rfl, rfl, rfl, rfl, rfl, trivial⟩ trivial rfl) ?_
      rintro i ⟨hi, ho⟩
      rcases Nat.lt_or_ge i s.length with hil | hil
      · obtain ⟨x, hx⟩ : ∃ x, s[i]? = some x := ⟨_, List.getElem?_eq_getElem hil⟩
        have hlm : ((markF ts x.number).map encI).length = cntS s ts ts.length i := by
          unfold cntS; rw [List.take_length, numF_at hx, List.length_map]
        have hnx := shareP_next (s := s) (ts := ts) (k := (q : Int)) (i := i)
        rw [ho, Bool.false_or] at hnx
        (conv => whnf); (repeat' (first | (refine arith_i ⟨by omega, by omega⟩ ?_; conv => whnf) | (refine arith_u ⟨by omega, by omega⟩ ?_; conv => whnf) | (refine arith_8 ⟨by omega, by omega⟩ ?_; conv => whnf) | (refine need_i (by first | omega | (simp only [List.length_cons, List.length_nil]; omega) | (simp only [List.length_append, List.length_cons, List.length_nil, List.length_map, List.length_replicate, List.length_modify]; omega)) ?_; conv => whnf) | ((with_reducible first | refine branch_tt ?_ | refine branch_ff ?_); conv => whnf) | (with_reducible refine branch_not ?_) | ((refine idx_cs hx ?_); conv => whnf) | ((refine call_e (rmarkersOf_ok ts x.number ht) ?_); conv => whnf) | ((with_reducible first | refine slc_e ?_ | refine callS_a ?_ | refine bld_a ?_ | refine own_e ?_ | refine mkmap_b ?_); conv => whnf) | (refine draw_i 10 plGL25F_0 (by decide +kernel) ?_; (conv => whnf); fail_if_success (guard_target =~ False)) | (refine draw_i 10 plGL25F_1 (by decide +kernel) ?_; (conv => whnf); fail_if_success (guard_target =~ False)) | (refine draw_i 10 plGL25F_2 (by decide +kernel) ?_; (conv => whnf); fail_if_success (guard_target =~ False)) | (refine draw_i 45 plGL25F_3 (by decide +kernel) ?_; (conv => whnf); fail_if_success (guard_target =~ False)) | (refine draw_i 45 plGL25F_4 (by decide +kernel) ?_; (conv => whnf); fail_if_success (guard_target =~ False)) | (refine draw_i 13 plGL25F_5 (by decide +kernel) ?_; (conv => whnf); fail_if_success (guard_target =~ False)) | (refine draw_i 13 plGL25F_6 (by decide +kernel) ?_; (conv => whnf); fail_if_success (guard_target =~ False)) | ((with_reducible refine And.intro ?_ ?_) <;> (conv => whnf)) | (with_reducible exact trivial) | ((with_reducible first | refine branch_d (fun hq => ?_) (fun hq => ?_) | refine branch_e (fun hq => ?_) (fun hq => ?_) | refine branch_n (fun hq => ?_) (fun hq => ?_) | refine branch_i (fun hq => ?_) (fun hq => ?_)) <;> (try (exfalso; omega)) <;> (conv => whnf))))
        · have e : shareB s q ts = true := shareP_true (i := i + 1) (by omega) (by rw [hnx]; simp only [bne_iff_ne, ne_eq]; omega)
          rw [if_pos e]; exact ret_p rfl rfl
        · exact ⟨i + 1, ⟨by omega, by rw [hnx, bne_eq_false_iff_eq]; omega⟩, (le_mk (by repeat' (first | exact trivial | rfl | apply And.intro)) (by repeat' (first | exact trivial | rfl | apply And.intro)) rfl), by omega⟩
      · obtain rfl : i = s.length := by omega
        have e : shareB s q ts = false := ho
        rw [e, if_neg (by simp)]
        (conv => whnf); (repeat' (first | (refine arith_i ⟨by omega, by omega⟩ ?_; conv => whnf) | (refine arith_u ⟨by omega, by omega⟩ ?_; conv => whnf) | (refine arith_8 ⟨by omega, by omega⟩ ?_; conv => whnf) | (refine need_i (by first | omega | (simp only [List.length_cons, List.length_nil]; omega) | (simp only [List.length_append, List.length_cons, List.length_nil, List.length_map, List.length_replicate, List.length_modify]; omega)) ?_; conv => whnf) | ((with_reducible first | refine branch_tt ?_ | refine branch_ff ?_); conv => whnf) | (with_reducible refine branch_not ?_) | ((with_reducible first | refine slc_e ?_ | refine callS_a ?_ | refine bld_a ?_ | refine own_e ?_ | refine mkmap_b ?_); conv => whnf) | (refine draw_i 10 plGL25F_0 (by decide +kernel) ?_; (conv => whnf); fail_if_success (guard_target =~ False)) | (refine draw_i 10 plGL25F_1 (by decide +kernel) ?_; (conv => whnf); fail_if_success (guard_target =~ False)) | (refine draw_i 10 plGL25F_2 (by decide +kernel) ?_; (conv => whnf); fail_if_success (guard_target =~ False)) | (refine draw_i 45 plGL25F_3 (by decide +kernel) ?_; (conv => whnf); fail_if_success (guard_target =~ False)) | (refine draw_i 45 plGL25F_4 (by decide +kernel) ?_; (conv => whnf); fail_if_success (guard_target =~ False)) | (refine draw_i 13 plGL25F_5 (by decide +kernel) ?_; (conv => whnf); fail_if_success (guard_target =~ False)) | (refine draw_i 13 plGL25F_6 (by decide +kernel) ?_; (conv => whnf); fail_if_success (guard_target =~ False)) | ((with_reducible refine And.intro ?_ ?_) <;> (conv => whnf)) | (with_reducible exact trivial) | ((with_reducible first | refine branch_d (fun hq => ?_) (fun hq => ?_) | refine branch_e (fun hq => ?_) (fun hq => ?_) | refine branch_n (fun hq => ?_) (fun hq => ?_) | refine branch_i (fun hq => ?_) (fun hq => ?_)) <;> (try (exfalso; omega)) <;> (conv => whnf))))
        refine loop_i (fun j : Nat => j ≤ l.length ∧ overB (l.take j) ts = false) (fun j => mkSt [(0, mrksV l), (3, tasksV ts), (13, .int .i64 j)] [] false) (fun j => l.length - j) 0 ⟨Nat.zero_le _, rfl⟩ (le_mk ⟨rfl, rfl, rfl, trivial⟩ trivial rfl) ?_
        rintro j ⟨hj, hov⟩
        rcases Nat.lt_or_ge j l.length with hjl | hjl
        · obtain ⟨m, hm⟩ : ∃ m, l[j]? = some m := ⟨_, List.getElem?_eq_getElem hjl⟩
          have hnx := over_next (ts := ts) hm
          rw [hov, Bool.false_or] at hnx
          (conv => whnf); (repeat' (first | (refine arith_i ⟨by omega, by omega⟩ ?_; conv => whnf) | (refine arith_u ⟨by omega, by omega⟩ ?_; conv => whnf) | (refine arith_8 ⟨by omega, by omega⟩ ?_; conv => whnf) | (refine need_i (by first | omega | (simp only [List.length_cons, List.length_nil]; omega) | (simp only [List.length_append, List.length_cons, List.length_nil, List.length_map, List.length_replicate, List.length_modify]; omega)) ?_; conv => whnf) | ((with_reducible first | refine branch_tt ?_ | refine branch_ff ?_); conv => whnf) | (with_reducible refine branch_not ?_) | ((refine idx_cs hm ?_); conv => whnf) | ((refine call_e (rload_ok ts m.id ht) ?_); conv => whnf) | ((with_reducible first | refine slc_e ?_ | refine callS_a ?_ | refine bld_a ?_ | refine own_e ?_ | refine mkmap_b ?_); conv => whnf) | (refine draw_i 10 plGL25F_0 (by decide +kernel) ?_; (conv => whnf); fail_if_success (guard_target =~ False)) | (refine draw_i 10 plGL25F_1 (by decide +kernel) ?_; (conv => whnf); fail_if_success (guard_target =~ False)) | (refine draw_i 10 plGL25F_2 (by decide +kernel) ?_; (conv => whnf); fail_if_success (guard_target =~ False)) | (refine draw_i 45 plGL25F_3 (by decide +kernel) ?_; (conv => whnf); fail_if_success (guard_target =~ False)) | (refine draw_i 45 plGL25F_4 (by decide +kernel) ?_; (conv => whnf); fail_if_success (guard_target =~ False)) | (refine draw_i 13 plGL25F_5 (by decide +kernel) ?_; (conv => whnf); fail_if_success (guard_target =~ False)) | (refine draw_i 13 plGL25F_6 (by decide +kernel) ?_; (conv => whnf); fail_if_success (guard_target =~ False)) | ((with_reducible refine And.intro ?_ ?_) <;> (conv => whnf)) | (with_reducible exact trivial) | ((with_reducible first | refine branch_d (fun hq => ?_) (fun hq => ?_) | refine branch_e (fun hq => ?_) (fun hq => ?_) | refine branch_n (fun hq => ?_) (fun hq => ?_) | refine branch_i (fun hq => ?_) (fun hq => ?_)) <;> (try (exfalso; omega)) <;> (conv => whnf))))
          · have e : overB l ts = true := List.any_eq_true.2 ⟨m, List.mem_of_getElem? hm, decide_eq_true (by omega)⟩
            rw [e, if_pos rfl]; exact ret_p rfl rfl
          · exact ⟨j + 1, ⟨by omega, by rw [hnx]; exact decide_eq_false (by omega)⟩, (le_mk (by repeat' (first | exact trivial | rfl | apply And.intro)) (by repeat' (first | exact trivial | rfl | apply And.intro)) rfl), by omega⟩
        · rw [List.take_of_length_le hjl] at hov
          rw [hov, if_neg (by simp)]
          (conv => whnf); (repeat' (first | (refine arith_i ⟨by omega, by omega⟩ ?_; conv => whnf) | (refine arith_u ⟨by omega, by omega⟩ ?_; conv => whnf) | (refine arith_8 ⟨by omega, by omega⟩ ?_; conv => whnf) | (refine need_i (by first | omega | (simp only [List.length_cons, List.length_nil]; omega) | (simp only [List.length_append, List.length_cons, List.length_nil, List.length_map, List.length_replicate, List.length_modify]; omega)) ?_; conv => whnf) | ((with_reducible first | refine branch_tt ?_ | refine branch_ff ?_); conv => whnf) | (with_reducible refine branch_not ?_) | ((with_reducible first | refine slc_e ?_ | refine callS_a ?_ | refine bld_a ?_ | refine own_e ?_ | refine mkmap_b ?_); conv => whnf) | (refine draw_i 10 plGL25F_0 (by decide +kernel) ?_; (conv => whnf); fail_if_success (guard_target =~ False)) | (refine draw_i 10 plGL25F_1 (by decide +kernel) ?_; (conv => whnf); fail_if_success (guard_target =~ False)) | (refine draw_i 10 plGL25F_2 (by decide +kernel) ?_; (conv => whnf); fail_if_success (guard_target =~ False)) | (refine draw_i 45 plGL25F_3 (by decide +kernel) ?_; (conv => whnf); fail_if_success (guard_target =~ False)) | (refine draw_i 45 plGL25F_4 (by decide +kernel) ?_; (conv => whnf); fail_if_success (guard_target =~ False)) | (refine draw_i 13 plGL25F_5 (by decide +kernel) ?_; (conv => whnf); fail_if_success (guard_target =~ False)) | (refine draw_i 13 plGL25F_6 (by decide +kernel) ?_; (conv => whnf); fail_if_success (guard_target =~ False)) | ((with_reducible refine And.intro ?_ ?_) <;> (conv => whnf)) | (with_reducible exact trivial) | ((with_reducible first | refine branch_d (fun hq => ?_) (fun hq => ?_) | refine branch_e (fun hq => ?_) (fun hq => ?_) | refine branch_n (fun hq => ?_) (fun hq => ?_) | refine branch_i (fun hq => ?_) (fun hq => ?_)) <;> (try (exfalso; omega)) <;> (conv => whnf))))
          exact ret_p rfl rfl
end Go.Proofs.Ytpmoflggmdfmnaa
end

/- Layer 25: whether two lists are equal. -/
section
namespace Go.Proofs.Ytpmoflggmdfmnaa
set_option linter.unusedVariables false
set_option linter.unusedSimpArgs false
set_option linter.unnecessarySimpa false
set_option linter.unusedSectionVars false
set_option maxRecDepth 10000
open Go.RowKit
theorem same25_ok (a b : List Int) (ha : a.length ≤ 1000000) (hb : b.length ≤ 1000000) : Good Try.prog TT false 25 [ints a, ints b] (· = .bool (decide (a = b))) := by
  have L1 : (a.map encI).length = a.length := List.length_map ..
  have L2 : (b.map encI).length = b.length := List.length_map ..
  refine good_of mixed tabOk Try.func25 rfl rfl Try.ntmps25 Try.results25 rfl rfl ?_
  (conv => whnf); (repeat (first | (refine arith_i ⟨by omega, by omega⟩ ?_; conv => whnf) | (refine need_i (by first | omega | (simp only [List.length_append, List.length_cons, List.length_nil]; omega)) ?_; conv => whnf) | ((with_reducible first | refine branch_tt ?_ | refine branch_ff ?_); conv => whnf) | (with_reducible refine branch_not ?_) | ((with_reducible first | refine slc_e ?_ | refine callS_a ?_ | refine bld_a ?_ | refine own_e ?_ | refine mkmap_b ?_); conv => whnf)))
  refine branch_n (fun h => ?_) (fun h => ?_)
  · (conv => whnf); (repeat (first | (refine arith_i ⟨by omega, by omega⟩ ?_; conv => whnf) | (refine need_i (by first | omega | (simp only [List.length_append, List.length_cons, List.length_nil]; omega)) ?_; conv => whnf) | ((with_reducible first | refine branch_tt ?_ | refine branch_ff ?_); conv => whnf) | (with_reducible refine branch_not ?_) | ((with_reducible first | refine slc_e ?_ | refine callS_a ?_ | refine bld_a ?_ | refine own_e ?_ | refine mkmap_b ?_); conv => whnf)))
    exact ret_p rfl (bool_eq (by rw [eq_comm, decide_eq_false_iff_not]; rintro rfl; exact h rfl))
  · (conv => whnf); (repeat (first | (refine arith_i ⟨by omega, by omega⟩ ?_; conv => whnf) | (refine need_i (by first | omega | (simp only [List.length_append, List.length_cons, List.length_nil]; omega)) ?_; conv => whnf) | ((with_reducible first | refine branch_tt ?_ | refine branch_ff ?_); conv => whnf) | (with_reducible refine branch_not ?_) | ((with_reducible first | refine slc_e ?_ | refine callS_a ?_ | refine bld_a ?_ | refine own_e ?_ | refine mkmap_b ?_); conv => whnf)))
    refine loop_i (fun k : Nat => k ≤ a.length ∧ ∀ i, i < k → a[i]? = b[i]?) (fun k => mkSt [(0, ints a), (1, ints b), (12, .int .i64 (a.map encI).length), (13, .int .i64 k)] [] false) (fun k => a.length - k) 0 ⟨Nat.zero_le _, nofun⟩ (le_mk ⟨rfl, rfl, rfl, rfl, trivial⟩ trivial rfl) ?_
    rintro k ⟨hk, hall⟩
    (conv => whnf); (repeat (first | (refine arith_i ⟨by omega, by omega⟩ ?_; conv => whnf) | (refine need_i (by first | omega | (simp only [List.length_append, List.length_cons, List.length_nil]; omega)) ?_; conv => whnf) | ((with_reducible first | refine branch_tt ?_ | refine branch_ff ?_); conv => whnf) | (with_reducible refine branch_not ?_) | ((with_reducible first | refine slc_e ?_ | refine callS_a ?_ | refine bld_a ?_ | refine own_e ?_ | refine mkmap_b ?_); conv => whnf)))
    refine branch_d (fun h1 => ?_) (fun h1 => ?_)
    · (conv => whnf); (repeat (first | (refine arith_i ⟨by omega, by omega⟩ ?_; conv => whnf) | (refine need_i (by first | omega | (simp only [List.length_append, List.length_cons, List.length_nil]; omega)) ?_; conv => whnf) | ((with_reducible first | refine branch_tt ?_ | refine branch_ff ?_); conv => whnf) | (with_reducible refine branch_not ?_) | ((with_reducible first | refine slc_e ?_ | refine callS_a ?_ | refine bld_a ?_ | refine own_e ?_ | refine mkmap_b ?_); conv => whnf)))
      refine draw_i 9 (.take 0 (.take 1 (.take 2 (.take 3 (.take 4 (.take 5 (.take 6 (.take 7 (.take 8 .done))))))))) (by decide +kernel) ?_
      (conv => whnf); (repeat (first | (refine arith_i ⟨by omega, by omega⟩ ?_; conv => whnf) | (refine need_i (by first | omega | (simp only [List.length_append, List.length_cons, List.length_nil]; omega)) ?_; conv => whnf) | ((with_reducible first | refine branch_tt ?_ | refine branch_ff ?_); conv => whnf) | (with_reducible refine branch_not ?_) | ((with_reducible first | refine slc_e ?_ | refine callS_a ?_ | refine bld_a ?_ | refine own_e ?_ | refine mkmap_b ?_); conv => whnf)))
      refine idx_m (by omega) (by omega) fun x hx => ?_
      rw [Int.toNat_natCast] at hx
      (conv => whnf); (repeat (first | (refine arith_i ⟨by omega, by omega⟩ ?_; conv => whnf) | (refine need_i (by first | omega | (simp only [List.length_append, List.length_cons, List.length_nil]; omega)) ?_; conv => whnf) | ((with_reducible first | refine branch_tt ?_ | refine branch_ff ?_); conv => whnf) | (with_reducible refine branch_not ?_) | ((with_reducible first | refine slc_e ?_ | refine callS_a ?_ | refine bld_a ?_ | refine own_e ?_ | refine mkmap_b ?_); conv => whnf)))
      refine idx_m (by omega) (by omega) fun y hy => ?_
      rw [Int.toNat_natCast] at hy
      (conv => whnf); (repeat (first | (refine arith_i ⟨by omega, by omega⟩ ?_; conv => whnf) | (refine need_i (by first | omega | (simp only [List.length_append, List.length_cons, List.length_nil]; omega)) ?_; conv => whnf) | ((with_reducible first | refine branch_tt ?_ | refine branch_ff ?_); conv => whnf) | (with_reducible refine branch_not ?_) | ((with_reducible first | refine slc_e ?_ | refine callS_a ?_ | refine bld_a ?_ | refine own_e ?_ | refine mkmap_b ?_); conv => whnf)))
      refine branch_n (fun he => ?_) (fun he => ?_)
      · (conv => whnf); (repeat (first | (refine arith_i ⟨by omega, by omega⟩ ?_; conv => whnf) | (refine need_i (by first | omega | (simp only [List.length_append, List.length_cons, List.length_nil]; omega)) ?_; conv => whnf) | ((with_reducible first | refine branch_tt ?_ | refine branch_ff ?_); conv => whnf) | (with_reducible refine branch_not ?_) | ((with_reducible first | refine slc_e ?_ | refine callS_a ?_ | refine bld_a ?_ | refine own_e ?_ | refine mkmap_b ?_); conv => whnf)))
        exact ret_p rfl (bool_eq (by rw [eq_comm, decide_eq_false_iff_not]; rintro rfl; rw [hx] at hy; injection hy with hy; exact he hy))
      · (conv => whnf); (repeat (first | (refine arith_i ⟨by omega, by omega⟩ ?_; conv => whnf) | (refine need_i (by first | omega | (simp only [List.length_append, List.length_cons, List.length_nil]; omega)) ?_; conv => whnf) | ((with_reducible first | refine branch_tt ?_ | refine branch_ff ?_); conv => whnf) | (with_reducible refine branch_not ?_) | ((with_reducible first | refine slc_e ?_ | refine callS_a ?_ | refine bld_a ?_ | refine own_e ?_ | refine mkmap_b ?_); conv => whnf)))
        refine ⟨k + 1, ⟨by omega, fun i hi => ?_⟩, le_mk ⟨rfl, rfl, rfl, rfl, trivial⟩ trivial rfl, by omega⟩
        rcases Nat.lt_or_ge i k with h' | h'
        · exact hall i h'
        · obtain rfl : i = k := by omega
          rw [hx, hy, he]
    · (conv => whnf); (repeat (first | (refine arith_i ⟨by omega, by omega⟩ ?_; conv => whnf) | (refine need_i (by first | omega | (simp only [List.length_append, List.length_cons, List.length_nil]; omega)) ?_; conv => whnf) | ((with_reducible first | refine branch_tt ?_ | refine branch_ff ?_); conv => whnf) | (with_reducible refine branch_not ?_) | ((with_reducible first | refine slc_e ?_ | refine callS_a ?_ | refine bld_a ?_ | refine own_e ?_ | refine mkmap_b ?_); conv => whnf)))
      refine ret_p rfl (bool_eq (by
        rw [eq_comm, decide_eq_true_iff]
        apply List.ext_getElem?
        intro i
        rcases Nat.lt_or_ge i k with h' | h'
        · exact hall i h'
        · rw [List.getElem?_eq_none (by omega), List.getElem?_eq_none (by omega)]))
end Go.Proofs.Ytpmoflggmdfmnaa
end

/- Layer 25: assignments of the reference: start, fill, Least, Allocate. -/
section
namespace Go.Proofs.Ytpmoflggmdfmnaa
set_option linter.unusedVariables false
set_option linter.unusedSimpArgs false
set_option linter.unnecessarySimpa false
set_option linter.unusedSectionVars false
set_option maxRecDepth 10000
open Go.RowKit
def plGL25h_0 : Plan := (.take 0 (.take 1 (.take 2 (.take 3 (.take 4 (.take 5 (.take 6 (.alt 7 (.alt 8 (.alt 9 (.take 10 (.take 11 (.alt 12 .done .stop))) .stop) .stop) .stop))))))))
def plGL25h_1 : Plan := (.take 0 (.take 1 (.take 2 (.take 3 (.take 5 (.take 6 (.alt 4 (.alt 7 (.alt 8 (.alt 9 (.take 10 (.take 11 (.alt 12 .done .stop))) .stop) .stop) .stop) (.alt 7 (.alt 4 (.alt 8 (.alt 9 (.take 10 (.take 11 (.alt 12 .done .stop))) .stop) .stop) (.alt 8 (.alt 4 (.alt 9 (.take 10 (.take 11 (.alt 12 .done .stop))) .stop) .stop) .stop)) .stop))))))))
def plGL25h_2 : Plan := (.take 0 (.take 1 (.take 2 (.take 3 (.take 4 (.take 5 (.take 6 (.take 7 (.take 8 (.take 9 (.take 10 (.take 11 (.alt 12 (.alt 13 (.take 14 (.take 15 (.alt 16 .done .stop))) .stop) .stop)))))))))))))
def plGL25h_3 : Plan := (.take 0 (.take 1 (.take 2 (.take 3 (.take 4 (.take 5 (.take 6 (.take 7 (.take 8 (.take 10 (.alt 9 (.take 11 (.alt 12 (.alt 13 (.take 14 (.take 15 (.alt 16 .done .stop))) .stop) .stop)) .stop)))))))))))
def plGL25h_4 : Plan := (.take 0 (.take 1 (.take 2 (.take 3 (.take 5 (.take 6 (.take 7 (.take 8 (.take 10 (.alt 4 (.alt 9 (.take 11 (.alt 12 (.alt 13 (.take 14 (.take 15 (.alt 16 .done .stop))) .stop) .stop)) .stop) (.alt 9 (.take 11 (.alt 4 (.alt 12 (.alt 13 (.take 14 (.take 15 (.alt 16 .done .stop))) .stop) .stop) (.alt 12 (.alt 4 (.alt 13 (.take 14 (.take 15 (.alt 16 .done .stop))) .stop) .stop) .stop))) .stop)))))))))))
def rflowG (t1 t2 : Nat) (l : List Mrk) (s : List Scr) (lim : Nat → Nat) (f : Flw) : List AV := [mrksV l, scrsV s, .mat t1 111 4 1 (rowsC s.length l.length f.A), .own t2 3 1 (nsL l.length f.ld), .lst 1 (nsL l.length lim)]
theorem st_box {a a' : List (Option (List (List AV)))} {b b' c c' : List (List AV)} {x y : AV} {t e e2 z2 t2 e3 t3 e4 : Nat} (h1 : a = a') (h2 : b' = b) (h3 : c' = c) : some [x, y, AV.mat t e e2 z2 a, AV.own t2 e3 1 b, AV.own t3 e4 1 c] = some [x, y, AV.mat t e e2 z2 a', AV.own t2 e3 1 b', AV.own t3 e4 1 c'] := by rw [h1, h2, h3]
set_option maxHeartbeats 4000000 in
theorem start_ok (l : List Mrk) (s : List Scr) (most : Nat) (hl : MksOk l) (hs : ScsOk s) (hm : most ≤ 60) :
    GoodM Try.prog TT false 59 [mrksV l, scrsV s, .int .i64 most] [] (fun r ov bx => r = .ptr 12 0 ∧ ov = [] ∧ bx = [(12, rflowG 901 902 l s (limF (capF l) most) flw0)]) := by
  have LL : (l.map encM).length = l.length := List.length_map ..
  have LS : (s.map encR).length = s.length := List.length_map ..
  have h16 := hl.len
  have h60 := hs.len
  have e0 : ((s.map encR).length : Int).toNat = s.length := by rw [LS]; simp
  refine good_of_m (fun _ => false) mixed tabOk Try.func59 rfl rfl Try.ntmps59 Try.results59 rfl rfl ?_
  (conv => whnf); (repeat' (first | (refine arith_i ⟨by omega, by omega⟩ ?_; conv => whnf) | (refine arith_u ⟨by omega, by omega⟩ ?_; conv => whnf) | (refine arith_8 ⟨by omega, by omega⟩ ?_; conv => whnf) | (refine need_i (by first | omega | (simp only [List.length_cons, List.length_nil]; omega) | (simp only [List.length_append, List.length_cons, List.length_nil, List.length_map, List.length_replicate, List.length_modify]; omega)) ?_; conv => whnf) | ((with_reducible first | refine branch_tt ?_ | refine branch_ff ?_); conv => whnf) | (with_reducible refine branch_not ?_) | ((with_reducible first | refine slc_e ?_ | refine callS_a ?_ | refine bld_a ?_ | refine own_e ?_ | refine mkmap_b ?_); conv => whnf) | (refine draw_i 10 plGL25h_0 (by decide +kernel) ?_; (conv => whnf); fail_if_success (guard_target =~ False)) | (refine draw_i 10 plGL25h_1 (by decide +kernel) ?_; (conv => whnf); fail_if_success (guard_target =~ False)) | (refine draw_i 14 plGL25h_2 (by decide +kernel) ?_; (conv => whnf); fail_if_success (guard_target =~ False)) | (refine draw_i 14 plGL25h_3 (by decide +kernel) ?_; (conv => whnf); fail_if_success (guard_target =~ False)) | (refine draw_i 14 plGL25h_4 (by decide +kernel) ?_; (conv => whnf); fail_if_success (guard_target =~ False)) | ((with_reducible refine And.intro ?_ ?_) <;> (conv => whnf)) | (with_reducible exact trivial) | ((with_reducible first | refine branch_d (fun hq => ?_) (fun hq => ?_) | refine branch_e (fun hq => ?_) (fun hq => ?_) | refine branch_n (fun hq => ?_) (fun hq => ?_) | refine branch_i (fun hq => ?_) (fun hq => ?_)) <;> (try (exfalso; omega)) <;> (conv => whnf))))
  refine loop_i (fun i : Nat => i ≤ l.length) (fun i => mkSt [(0, mrksV l), (1, scrsV s), (2, .int .i64 most), (7, .ptr 12 0), (8, .int .i64 i)] [(12, [mrksV l, scrsV s, .mat 901 111 4 1 (rowsM i s.length fun _ _ => false), .own 902 3 1 (nsL i fun _ => 0), .own 903 3 1 (nsL i (limF (capF l) most))])] false) (fun i => l.length - i) 0 (Nat.zero_le _) (Le.trans (le_adoptBox 12 2 901 111 1 rfl rfl) (Le.trans (le_toMatBox 12 2 901 111 4 1 rfl rfl) (Le.trans (le_adoptBox 12 3 902 3 1 rfl rfl) (Le.trans (le_adoptBox 12 4 903 3 1 rfl rfl) (le_mk (by repeat' (first | exact trivial | rfl | apply And.intro)) (by repeat' (first | exact trivial | rfl | apply And.intro)) rfl))))) ?_
  intro i hi
  have L1 : (rowsM i s.length fun _ _ => false).length = i := rowsM_len
  have L2 : (nsL i fun _ => 0).length = i := nsL_len
  have L3 : (nsL i (limF (capF l) most)).length = i := nsL_len
  rcases Nat.lt_or_ge i l.length with hil | hil
  · obtain ⟨m, hm'⟩ : ∃ m, l[i]? = some m := ⟨_, List.getElem?_eq_getElem hil⟩
    have hcap := (hl.all i m hm').cap
    (conv => whnf); (repeat' (first | (refine arith_i ⟨by omega, by omega⟩ ?_; conv => whnf) | (refine arith_u ⟨by omega, by omega⟩ ?_; conv => whnf) | (refine arith_8 ⟨by omega, by omega⟩ ?_; conv => whnf) | (refine need_i (by first | omega | (simp only [List.length_cons, List.length_nil]; omega) | (simp only [List.length_append, List.length_cons, List.length_nil, List.length_map, List.length_replicate, List.length_modify]; omega)) ?_; conv => whnf) | ((with_reducible first | refine branch_tt ?_ | refine branch_ff ?_); conv => whnf) | (with_reducible refine branch_not ?_) | ((refine idx_cs hm' ?_); conv => whnf) | ((refine need_i (by omega) ?_); conv => whnf) | ((refine bld_m ?_); conv => whnf) | ((with_reducible first | refine slc_e ?_ | refine callS_a ?_ | refine bld_a ?_ | refine own_e ?_ | refine mkmap_b ?_); conv => whnf) | (refine draw_i 10 plGL25h_0 (by decide +kernel) ?_; (conv => whnf); fail_if_success (guard_target =~ False)) | (refine draw_i 10 plGL25h_1 (by decide +kernel) ?_; (conv => whnf); fail_if_success (guard_target =~ False)) | (refine draw_i 14 plGL25h_2 (by decide +kernel) ?_; (conv => whnf); fail_if_success (guard_target =~ False)) | (refine draw_i 14 plGL25h_3 (by decide +kernel) ?_; (conv => whnf); fail_if_success (guard_target =~ False)) | (refine draw_i 14 plGL25h_4 (by decide +kernel) ?_; (conv => whnf); fail_if_success (guard_target =~ False)) | ((with_reducible refine And.intro ?_ ?_) <;> (conv => whnf)) | (with_reducible exact trivial) | ((with_reducible first | refine branch_d (fun hq => ?_) (fun hq => ?_) | refine branch_e (fun hq => ?_) (fun hq => ?_) | refine branch_n (fun hq => ?_) (fun hq => ?_) | refine branch_i (fun hq => ?_) (fun hq => ?_)) <;> (try (exfalso; omega)) <;> (conv => whnf))))
    exact ⟨i + 1, by omega, le_mk ⟨rfl, rfl, rfl, rfl, rfl, trivial⟩ ⟨st_box (by rw [e0, bs_false, rows_next]) (by rw [ns_next]; rfl) (by rw [ns_next, lim_at hm' hcap.1]), trivial⟩ rfl, by omega⟩
  · obtain rfl : i = l.length := by omega
    (conv => whnf); (repeat' (first | (refine arith_i ⟨by omega, by omega⟩ ?_; conv => whnf) | (refine arith_u ⟨by omega, by omega⟩ ?_; conv => whnf) | (refine arith_8 ⟨by omega, by omega⟩ ?_; conv => whnf) | (refine need_i (by first | omega | (simp only [List.length_cons, List.length_nil]; omega) | (simp only [List.length_append, List.length_cons, List.length_nil, List.length_map, List.length_replicate, List.length_modify]; omega)) ?_; conv => whnf) | ((with_reducible first | refine branch_tt ?_ | refine branch_ff ?_); conv => whnf) | (with_reducible refine branch_not ?_) | ((with_reducible first | refine slc_e ?_ | refine callS_a ?_ | refine bld_a ?_ | refine own_e ?_ | refine mkmap_b ?_); conv => whnf) | (refine draw_i 10 plGL25h_0 (by decide +kernel) ?_; (conv => whnf); fail_if_success (guard_target =~ False)) | (refine draw_i 10 plGL25h_1 (by decide +kernel) ?_; (conv => whnf); fail_if_success (guard_target =~ False)) | (refine draw_i 14 plGL25h_2 (by decide +kernel) ?_; (conv => whnf); fail_if_success (guard_target =~ False)) | (refine draw_i 14 plGL25h_3 (by decide +kernel) ?_; (conv => whnf); fail_if_success (guard_target =~ False)) | (refine draw_i 14 plGL25h_4 (by decide +kernel) ?_; (conv => whnf); fail_if_success (guard_target =~ False)) | ((with_reducible refine And.intro ?_ ?_) <;> (conv => whnf)) | (with_reducible exact trivial) | ((with_reducible first | refine branch_d (fun hq => ?_) (fun hq => ?_) | refine branch_e (fun hq => ?_) (fun hq => ?_) | refine branch_n (fun hq => ?_) (fun hq => ?_) | refine branch_i (fun hq => ?_) (fun hq => ?_)) <;> (try (exfalso; omega)) <;> (conv => whnf))))
    exact retM_i _ [] [(12, rflowG 901 902 l s (limF (capF l) most) flw0)] rfl (Le.trans (le_erase 903) (le_mk (by repeat' (first | exact trivial | rfl | apply And.intro)) (by repeat' (first | exact trivial | rfl | apply And.intro)) rfl)) rfl ⟨rfl, rfl, rfl⟩
theorem call_args {a b : AV} {v v' : List (List AV)} {t e : Nat} (h : v = v') : [a, b, AV.own t e 1 v] ++ [] = [a, b, AV.own t e 1 v'] := by rw [h]; rfl
def RFillR (l : List Mrk) (s : List Scr) (lim : Nat → Nat) (p : Option Nat × Flw) (r : AV) (ov : List (Nat × AV)) (bx : List (Nat × List AV)) : Prop :=
  ov = [] ∧ bx = [(1000, rflowC l s lim p.2)] ∧ ((p.1 = none ∧ r = .tup [.int .i64 0, .bool true]) ∨ ∃ i, p.1 = some i ∧ r = .tup [.int .i64 (i : Nat), .bool false])
set_option maxHeartbeats 4000000 in
theorem rFill_ok (l : List Mrk) (s : List Scr) (lim : Nat → Nat) (hl : MksOk l) (hs : ScsOk s) (hlim : ∀ m, m < l.length → lim m ≤ 1000) (r : Nat) (hr : r ≤ 2) (s0 : Flw) (hw : WF (elF l s) lim s.length l.length s0) :
    GoodM Try.prog TT false 60 [.ptr 1000 0, .int .i64 r] [(1000, rflowC l s lim s0)] (RFillR l s lim (fillF (elF l s) lim s.length l.length r (List.range s.length) s0)) := by
  have LL : (l.map encM).length = l.length := List.length_map ..
  have LS : (s.map encR).length = s.length := List.length_map ..
  have h16 := hl.len
  have h60 := hs.len
  have e0 : ((l.map encM).length : Int).toNat = l.length := by rw [LL]; simp
  refine good_of_m (fun _ => false) mixed tabOk Try.func60 rfl rfl Try.ntmps60 Try.results60 rfl rfl ?_
  (conv => whnf); (repeat' (first | (refine arith_i ⟨by omega, by omega⟩ ?_; conv => whnf) | (refine arith_u ⟨by omega, by omega⟩ ?_; conv => whnf) | (refine arith_8 ⟨by omega, by omega⟩ ?_; conv => whnf) | (refine need_i (by first | omega | (simp only [List.length_cons, List.length_nil]; omega) | (simp only [List.length_append, List.length_cons, List.length_nil, List.length_map, List.length_replicate, List.length_modify]; omega)) ?_; conv => whnf) | ((with_reducible first | refine branch_tt ?_ | refine branch_ff ?_); conv => whnf) | (with_reducible refine branch_not ?_) | ((with_reducible first | refine slc_e ?_ | refine callS_a ?_ | refine bld_a ?_ | refine own_e ?_ | refine mkmap_b ?_); conv => whnf) | ((with_reducible first | refine branch_d (fun hq => ?_) (fun hq => ?_) | refine branch_e (fun hq => ?_) (fun hq => ?_) | refine branch_n (fun hq => ?_) (fun hq => ?_) | refine branch_i (fun hq => ?_) (fun hq => ?_)) <;> (try (exfalso; omega)) <;> (conv => whnf))))
  refine loop_i2 (fun (i : Nat) (F : Flw) => i ≤ s.length ∧ WF (elF l s) lim s.length l.length F ∧ fillF (elF l s) lim s.length l.length r (List.range s.length) s0 = fillF (elF l s) lim s.length l.length r ((List.range s.length).drop i) F) (fun i F => mkSt [(0, .ptr 1000 0), (1, .int .i64 r), (6, .int .i64 i)] [(1000, rflowC l s lim F)] false) (fun i _ => s.length - i) 0 s0 ⟨Nat.zero_le _, hw, rfl⟩ (le_mk (by repeat' (first | exact trivial | rfl | apply And.intro)) (by repeat' (first | exact trivial | rfl | apply And.intro)) rfl) ?_
  rintro i F ⟨hi, hws, hF⟩
  rcases Nat.lt_or_ge i s.length with hin | hin
  · rw [List.drop_eq_getElem_cons (by simpa using hin), List.getElem_range] at hF
    (conv => whnf); (repeat' (first | (refine arith_i ⟨by omega, by omega⟩ ?_; conv => whnf) | (refine arith_u ⟨by omega, by omega⟩ ?_; conv => whnf) | (refine arith_8 ⟨by omega, by omega⟩ ?_; conv => whnf) | (refine need_i (by first | omega | (simp only [List.length_cons, List.length_nil]; omega) | (simp only [List.length_append, List.length_cons, List.length_nil, List.length_map, List.length_replicate, List.length_modify]; omega)) ?_; conv => whnf) | ((with_reducible first | refine branch_tt ?_ | refine branch_ff ?_); conv => whnf) | (with_reducible refine branch_not ?_) | ((with_reducible first | refine slc_e ?_ | refine callS_a ?_ | refine bld_a ?_ | refine own_e ?_ | refine mkmap_b ?_); conv => whnf) | ((with_reducible first | refine branch_d (fun hq => ?_) (fun hq => ?_) | refine branch_e (fun hq => ?_) (fun hq => ?_) | refine branch_n (fun hq => ?_) (fun hq => ?_) | refine branch_i (fun hq => ?_) (fun hq => ?_)) <;> (try (exfalso; omega)) <;> (conv => whnf))))
    refine loop_i2 (fun (q : Nat) (s' : Flw) => q ≤ r ∧ WF (elF l s) lim s.length l.length s' ∧ roundsF (elF l s) lim s.length l.length i r F = roundsF (elF l s) lim s.length l.length i (r - q) s') (fun q s' => mkSt [(0, .ptr 1000 0), (1, .int .i64 r), (6, .int .i64 i), (7, .int .i64 q)] [(1000, rflowC l s lim s')] false) (fun q _ => r - q) 0 F ⟨Nat.zero_le _, hws, rfl⟩ (le_mk (by repeat' (first | exact trivial | rfl | apply And.intro)) (by repeat' (first | exact trivial | rfl | apply And.intro)) rfl) ?_
    rintro q s' ⟨hq1, hw', hR⟩
    rcases Nat.lt_or_ge q r with hqr | hqr
    · rw [show r - q = (r - (q + 1)) + 1 by omega] at hR
      have hG := give_ok l s lim hl hs hlim l.length i ⟨s'.A, s'.ld, fun _ => false⟩ hin (Nat.le_of_eq (unv_none fun _ => rfl)) hw'.lim
      (conv => whnf); (repeat' (first | (refine arith_i ⟨by omega, by omega⟩ ?_; conv => whnf) | (refine arith_u ⟨by omega, by omega⟩ ?_; conv => whnf) | (refine arith_8 ⟨by omega, by omega⟩ ?_; conv => whnf) | (refine need_i (by first | omega | (simp only [List.length_cons, List.length_nil]; omega) | (simp only [List.length_append, List.length_cons, List.length_nil, List.length_map, List.length_replicate, List.length_modify]; omega)) ?_; conv => whnf) | ((with_reducible first | refine branch_tt ?_ | refine branch_ff ?_); conv => whnf) | (with_reducible refine branch_not ?_) | ((refine need_i (by omega) ?_); conv => whnf) | ((refine mcall_e [(1000, 1000)] [(1101, 1101), (1102, 1102), (1104, 29)] hG rfl (call_args (by rw [e0, bs_false])) rfl ⟨⟨_, rfl, rfl, rfl⟩, trivial⟩ rfl ?_); conv => whnf) | ((with_reducible first | refine slc_e ?_ | refine callS_a ?_ | refine bld_a ?_ | refine own_e ?_ | refine mkmap_b ?_); conv => whnf) | ((with_reducible first | refine branch_d (fun hq => ?_) (fun hq => ?_) | refine branch_e (fun hq => ?_) (fun hq => ?_) | refine branch_n (fun hq => ?_) (fun hq => ?_) | refine branch_i (fun hq => ?_) (fun hq => ?_)) <;> (try (exfalso; omega)) <;> (conv => whnf))))
      · have e : augF (elF l s) lim s.length l.length i s' = (true, (augF (elF l s) lim s.length l.length i s').2) := Prod.ext hq rfl
        rw [rounds_yes (show (augF (elF l s) lim s.length l.length i s').1 = true from hq)] at hR
        exact ⟨q + 1, (augF (elF l s) lim s.length l.length i s').2, ⟨by omega, (aug_won hin hw' e).1, hR⟩, (le_mk (by repeat' (first | exact trivial | rfl | apply And.intro)) (by repeat' (first | exact trivial | rfl | apply And.intro)) rfl), by omega⟩
      · rw [rounds_no (show (augF (elF l s) lim s.length l.length i s').1 = false from hq)] at hR
        have e : fillF (elF l s) lim s.length l.length r (List.range s.length) s0 = (some i, (augF (elF l s) lim s.length l.length i s').2) := by rw [hF, fillF, hR]
        exact retM_i _ [] [(1000, rflowC l s lim (augF (elF l s) lim s.length l.length i s').2)] rfl (le_mk (by repeat' (first | exact trivial | rfl | apply And.intro)) (by repeat' (first | exact trivial | rfl | apply And.intro)) rfl) rfl ⟨rfl, by rw [e], .inr ⟨i, by rw [e], rfl⟩⟩
    · rw [show r - q = 0 by omega, roundsF] at hR
      (conv => whnf); (repeat' (first | (refine arith_i ⟨by omega, by omega⟩ ?_; conv => whnf) | (refine arith_u ⟨by omega, by omega⟩ ?_; conv => whnf) | (refine arith_8 ⟨by omega, by omega⟩ ?_; conv => whnf) | (refine need_i (by first | omega | (simp only [List.length_cons, List.length_nil]; omega) | (simp only [List.length_append, List.length_cons, List.length_nil, List.length_map, List.length_replicate, List.length_modify]; omega)) ?_; conv => whnf) | ((with_reducible first | refine branch_tt ?_ | refine branch_ff ?_); conv => whnf) | (with_reducible refine branch_not ?_) | ((with_reducible first | refine slc_e ?_ | refine callS_a ?_ | refine bld_a ?_ | refine own_e ?_ | refine mkmap_b ?_); conv => whnf) | ((with_reducible first | refine branch_d (fun hq => ?_) (fun hq => ?_) | refine branch_e (fun hq => ?_) (fun hq => ?_) | refine branch_n (fun hq => ?_) (fun hq => ?_) | refine branch_i (fun hq => ?_) (fun hq => ?_)) <;> (try (exfalso; omega)) <;> (conv => whnf))))
      exact ⟨i + 1, s', ⟨by omega, hw', by rw [hF, fillF, hR]⟩, (le_mk (by repeat' (first | exact trivial | rfl | apply And.intro)) (by repeat' (first | exact trivial | rfl | apply And.intro)) rfl), by omega⟩
  · rw [List.drop_eq_nil_of_le (by simpa using hin), fillF] at hF
    (conv => whnf); (repeat' (first | (refine arith_i ⟨by omega, by omega⟩ ?_; conv => whnf) | (refine arith_u ⟨by omega, by omega⟩ ?_; conv => whnf) | (refine arith_8 ⟨by omega, by omega⟩ ?_; conv => whnf) | (refine need_i (by first | omega | (simp only [List.length_cons, List.length_nil]; omega) | (simp only [List.length_append, List.length_cons, List.length_nil, List.length_map, List.length_replicate, List.length_modify]; omega)) ?_; conv => whnf) | ((with_reducible first | refine branch_tt ?_ | refine branch_ff ?_); conv => whnf) | (with_reducible refine branch_not ?_) | ((with_reducible first | refine slc_e ?_ | refine callS_a ?_ | refine bld_a ?_ | refine own_e ?_ | refine mkmap_b ?_); conv => whnf) | ((with_reducible first | refine branch_d (fun hq => ?_) (fun hq => ?_) | refine branch_e (fun hq => ?_) (fun hq => ?_) | refine branch_n (fun hq => ?_) (fun hq => ?_) | refine branch_i (fun hq => ?_) (fun hq => ?_)) <;> (try (exfalso; omega)) <;> (conv => whnf))))
    exact retM_i _ [] [(1000, rflowC l s lim F)] rfl (le_mk (by repeat' (first | exact trivial | rfl | apply And.intro)) (by repeat' (first | exact trivial | rfl | apply And.intro)) rfl) rfl ⟨rfl, by rw [hF], .inl ⟨by rw [hF], rfl⟩⟩
end Go.Proofs.Ytpmoflggmdfmnaa
end
