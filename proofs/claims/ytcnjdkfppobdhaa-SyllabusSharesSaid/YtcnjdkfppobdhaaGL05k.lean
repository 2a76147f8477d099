/- Layer 5 by the interpreter: the law SyllabusRoots. -/
import Derived.Test.YtcnjdkfppobdhaaGL05j
namespace Go.Proofs.Ytcnjdkfppobdhaa
set_option linter.unusedVariables false
set_option linter.unusedSimpArgs false
set_option linter.unnecessarySimpa false
set_option linter.unusedSectionVars false
set_option maxRecDepth 10000
open Go.RowKit

theorem words_fresh : ∀ (k : Nat) (x : ByteArray), words[k]? = some x → freshF (words.take k) x = 0 := by
  intro k x h
  have hk : k < 6 := (List.getElem?_eq_some_iff.1 h).1
  have : ∀ i : _root_.Fin 6, freshF (words.take i) (words[(i : Nat)]'i.2) = 0 := by decide +kernel
  have e := this ⟨k, hk⟩
  rw [List.getElem?_eq_getElem (show k < words.length from hk)] at h
  injection h with h
  rw [← h]; exact e
theorem take_words {α : Type} {f : α → ByteArray} {l : List α} {k : Nat} (hk : k ≤ l.length) (h : ∀ (i : Nat) (t : α), l[i]? = some t → words[i]? = some (f t)) : (l.take k).map f = words.take k := by
  apply List.ext_getElem?
  intro i
  rw [List.getElem?_map, List.getElem?_take, List.getElem?_take]
  by_cases hi : i < k
  · rw [if_pos hi, if_pos hi]
    have ⟨t, ht⟩ : ∃ t, l[i]? = some t := ⟨_, List.getElem?_eq_getElem (by omega)⟩
    rw [ht, h i t ht]; rfl
  · rw [if_neg hi, if_neg hi]; rfl
theorem base_topics {l : List Tpc} (h : BaseT l) : topicsF [] l = 0 := by
  have key : ∀ d k, k + d = l.length → topicsF ((l.take k).map (·.name)) (l.drop k) = 0 := by
    intro d
    induction d with
    | zero => intro k hk; rw [List.drop_eq_nil_of_le (by omega), topicsF]
    | succ d ih =>
      intro k hk
      have ⟨t, ht⟩ : ∃ t, l[k]? = some t := ⟨_, List.getElem?_eq_getElem (by omega)⟩
      obtain ⟨h1, h2⟩ := h.2 k t ht
      have hf : freshF ((l.take k).map (·.name)) t.name = 0 := by rw [take_words (by omega) fun i t ht => (h.2 i t ht).1]; exact words_fresh k _ h1
      rw [topics_step ht, hf, if_neg (by simp), if_neg (by simp [h2]), ih (k + 1) (by omega)]
  exact key l.length 0 (by omega)
theorem base_objs {l : List ByteArray} (h : BaseO l) : objsF [] l = 0 := by
  have key : ∀ d k, k + d = l.length → objsF (l.take k) (l.drop k) = 0 := by
    intro d
    induction d with
    | zero => intro k hk; rw [List.drop_eq_nil_of_le (by omega), objsF]
    | succ d ih =>
      intro k hk
      have ⟨t, ht⟩ : ∃ t, l[k]? = some t := ⟨_, List.getElem?_eq_getElem (by omega)⟩
      have h1 := h.2 k t ht
      have hf : freshF (l.take k) t = 0 := by
        have := take_words (f := id) (l := l) (k := k) (by omega) fun i t ht => h.2 i t ht
        rw [List.map_id] at this
        rw [this]; exact words_fresh k _ h1
      rw [objs_step ht, hf, if_neg (by simp), ih (k + 1) (by omega)]
  exact key l.length 0 (by omega)
theorem base_comps {l : List Cmp} (h : BaseC l) : compsF [] l = 0 := by
  have key : ∀ d k, k + d = l.length → compsF ((l.take k).map (·.name)) (l.drop k) = 0 := by
    intro d
    induction d with
    | zero => intro k hk; rw [List.drop_eq_nil_of_le (by omega), compsF]
    | succ d ih =>
      intro k hk
      have ⟨t, ht⟩ : ∃ t, l[k]? = some t := ⟨_, List.getElem?_eq_getElem (by omega)⟩
      obtain ⟨h1, h2⟩ := h.2 k t ht
      have hf : freshF ((l.take k).map (·.name)) t.name = 0 := by rw [take_words (by omega) fun i t ht => (h.2 i t ht).1]; exact words_fresh k _ h1
      rw [comps_step ht, hf, if_neg (by simp), if_neg (by simp [h2]), ih (k + 1) (by omega)]
  exact key l.length 0 (by omega)
theorem base_check {s : Syl} (h1 : BaseT s.tops) (h2 : BaseO s.objs) (h3 : BaseC s.comps) : checkS s = 0 := by
  have hl : lensB s = true := by
    have := h1.1; have := h2.1; have := h3.1
    simp [lensB]; omega
  rw [checkS, hl, if_neg (by simp), base_topics h1, if_neg (by simp), base_objs h2, if_neg (by simp), base_comps h3]
theorem nth_snoc {ms : List Int} {x : Int} {k : Nat} (hk : k < ms.length) : nth (ms ++ [x]) k = nth ms k := by
  unfold nth
  rw [List.getD_eq_getElem?_getD, List.getD_eq_getElem?_getD, List.getElem?_append_left hk]
theorem sum_snoc {ms : List Int} {x : Int} : sumN (nth (ms ++ [x])) (ms.length + 1) = sumN (nth ms) ms.length + x := by
  rw [sumN, sumN_congr fun k hk => nth_snoc hk, nth_of (x := x) (by simp)]
theorem rolled_at {s : Syl} {m : List Int} {j : Nat} (hj : j < s.tops.length) : (rolled s m)[j]? = some (rollS (parF s) (nth m) s.tops.length j) := by simp [rolled, hj]
theorem roots_law (xs : List Int) (hx : xs.length ≤ 9223372036854775807) : Good Try.prog TT false 6 [ints xs] (· = .bool true) := by
  refine good_of mixed tabOk Try.func6 rfl rfl Try.ntmps6 Try.results6 rfl rfl ?_
  (conv => whnf); (repeat (first | (refine arith_i ⟨by omega, by omega⟩ ?_; conv => whnf) | (refine need_i (by first | omega | (simp only [List.length_append, List.length_cons, List.length_nil]; omega)) ?_; conv => whnf) | ((with_reducible refine branch_tt ?_); conv => whnf) | ((with_reducible refine branch_ff ?_); conv => whnf) | (with_reducible refine branch_not ?_)))
  refine call_e (new_ok xs hx) ?_
  (conv => whnf); (repeat (first | (refine arith_i ⟨by omega, by omega⟩ ?_; conv => whnf) | (refine need_i (by first | omega | (simp only [List.length_append, List.length_cons, List.length_nil]; omega)) ?_; conv => whnf) | ((with_reducible refine branch_tt ?_); conv => whnf) | ((with_reducible refine branch_ff ?_); conv => whnf) | (with_reducible refine branch_not ?_)))
  refine call_i (syllabus_ok 0 (by omega)) fun r hr => ?_
  obtain ⟨s, rfl, hs, hb⟩ := hr
  obtain ⟨b1, b2, b3⟩ := hb rfl
  have h0 := base_check b1 b2 b3
  have hV := par_valid h0
  have hn := tops_len h0
  have L1 : (s.tops.map encTpc).length = s.tops.length := List.length_map ..
  (conv => whnf); (repeat (first | (refine arith_i ⟨by omega, by omega⟩ ?_; conv => whnf) | (refine need_i (by first | omega | (simp only [List.length_append, List.length_cons, List.length_nil]; omega)) ?_; conv => whnf) | ((with_reducible refine branch_tt ?_); conv => whnf) | ((with_reducible refine branch_ff ?_); conv => whnf) | (with_reducible refine branch_not ?_)))
  refine loop_i (fun ms : List Int => ms.length ≤ s.tops.length ∧ marksB ms = true) (fun ms => mkSt [(3, .tape), (4, .ptr 4 0), (5, .own 200 3 1 (ms.map encI)), (6, .int .i64 (sumN (nth ms) ms.length)), (7, .int .i64 ms.length)] [(4, sylC s)] true) (fun ms => s.tops.length - ms.length) [] ⟨Nat.zero_le _, rfl⟩ (Le.trans (le_adopt 5 200 3 1 rfl) (le_mk ⟨rfl, rfl, rfl, rfl, rfl, trivial⟩ ⟨rfl, trivial⟩ rfl)) ?_
  rintro ms ⟨hm, hM⟩
  have L2 : (ms.map encI).length = ms.length := List.length_map ..
  have hsum := sumN_le (f := nth ms) (b := 200) (n := ms.length) (by omega) fun k _ => marks_in hM k
  (conv => whnf); (repeat (first | (refine arith_i ⟨by omega, by omega⟩ ?_; conv => whnf) | (refine need_i (by first | omega | (simp only [List.length_append, List.length_cons, List.length_nil]; omega)) ?_; conv => whnf) | ((with_reducible refine branch_tt ?_); conv => whnf) | ((with_reducible refine branch_ff ?_); conv => whnf) | (with_reducible refine branch_not ?_)))
  refine branch_d (fun h => ?_) (fun h => ?_)
  · (conv => whnf); (repeat (first | (refine arith_i ⟨by omega, by omega⟩ ?_; conv => whnf) | (refine need_i (by first | omega | (simp only [List.length_append, List.length_cons, List.length_nil]; omega)) ?_; conv => whnf) | ((with_reducible refine branch_tt ?_); conv => whnf) | ((with_reducible refine branch_ff ?_); conv => whnf) | (with_reducible refine branch_not ?_)))
    refine call_i (range_ok 0 30 (by omega) (by omega)) fun r hr => ?_
    obtain ⟨a, rfl, -, ha⟩ := hr
    replace ha := ha (by omega)
    (conv => whnf); (repeat (first | (refine arith_i ⟨by omega, by omega⟩ ?_; conv => whnf) | (refine need_i (by first | omega | (simp only [List.length_append, List.length_cons, List.length_nil]; omega)) ?_; conv => whnf) | ((with_reducible refine branch_tt ?_); conv => whnf) | ((with_reducible refine branch_ff ?_); conv => whnf) | (with_reducible refine branch_not ?_)))
    refine idx_i (cs := [.int .i64 a]) (by omega) (by rw [Int.toNat_natCast, List.getElem?_append_right (by omega), L2, Nat.sub_self]; rfl) ?_
    (conv => whnf); (repeat (first | (refine arith_i ⟨by omega, by omega⟩ ?_; conv => whnf) | (refine need_i (by first | omega | (simp only [List.length_append, List.length_cons, List.length_nil]; omega)) ?_; conv => whnf) | ((with_reducible refine branch_tt ?_); conv => whnf) | ((with_reducible refine branch_ff ?_); conv => whnf) | (with_reducible refine branch_not ?_)))
    exact ⟨ms ++ [a], ⟨by simp; omega, by simp only [marksB, List.all_append] at hM ⊢; rw [hM]; simp [markB]; omega⟩, le_mk ⟨rfl, rfl, snocI _ _ _ _, int_eq (by rw [List.length_append]; exact sum_snoc.symm), int_eq (by simp), trivial⟩ ⟨rfl, trivial⟩ rfl, by simp; omega⟩
  · have hl : ms.length = s.tops.length := by omega
    have hsum' := hsum
    rw [hl] at hsum'
    have hE : rollE s ms = 0 := by rw [rollE, if_neg (by simp [h0]), if_neg (by simp [hl]), if_neg (by simp [hM])]
    have hR : rollL s ms = rolled s ms := by rw [rollL, if_pos hE]
    have L3 : ((rolled s ms).map encI).length = s.tops.length := by simp [rolled]
    have L4 : (rolled s ms).length = s.tops.length := by simp [rolled]
    have hG : Good Try.prog TT false 19 [sylV s, ints ms] (· = .tup [ints (rolled s ms), .int .i64 0]) := by
      have := roll_ok s hs ms (by omega)
      rwa [hE, hR] at this
    (conv => whnf); (repeat (first | (refine arith_i ⟨by omega, by omega⟩ ?_; conv => whnf) | (refine need_i (by first | omega | (simp only [List.length_append, List.length_cons, List.length_nil]; omega)) ?_; conv => whnf) | ((with_reducible refine branch_tt ?_); conv => whnf) | ((with_reducible refine branch_ff ?_); conv => whnf) | (with_reducible refine branch_not ?_)))
    refine call_e hG ?_
    (conv => whnf); (repeat (first | (refine arith_i ⟨by omega, by omega⟩ ?_; conv => whnf) | (refine need_i (by first | omega | (simp only [List.length_append, List.length_cons, List.length_nil]; omega)) ?_; conv => whnf) | ((with_reducible refine branch_tt ?_); conv => whnf) | ((with_reducible refine branch_ff ?_); conv => whnf) | (with_reducible refine branch_not ?_)))
    refine branch_f (by decide) ?_
    (conv => whnf); (repeat (first | (refine arith_i ⟨by omega, by omega⟩ ?_; conv => whnf) | (refine need_i (by first | omega | (simp only [List.length_append, List.length_cons, List.length_nil]; omega)) ?_; conv => whnf) | ((with_reducible refine branch_tt ?_); conv => whnf) | ((with_reducible refine branch_ff ?_); conv => whnf) | (with_reducible refine branch_not ?_)))
    refine branch_n (fun h => by omega) (fun _ => ?_)
    (conv => whnf); (repeat (first | (refine arith_i ⟨by omega, by omega⟩ ?_; conv => whnf) | (refine need_i (by first | omega | (simp only [List.length_append, List.length_cons, List.length_nil]; omega)) ?_; conv => whnf) | ((with_reducible refine branch_tt ?_); conv => whnf) | ((with_reducible refine branch_ff ?_); conv => whnf) | (with_reducible refine branch_not ?_)))
    refine loop_i (fun k : Nat => k ≤ s.tops.length) (fun k => mkSt [(4, .ptr 4 0), (5, ints ms), (6, .int .i64 (sumN (nth ms) s.tops.length - sumN (fun c => if parF s c = -1 then rollS (parF s) (nth ms) s.tops.length c else 0) k)), (8, ints (rolled s ms)), (10, .int .i64 k)] [(4, sylC s)] true) (fun k => s.tops.length - k) 0 (Nat.zero_le _) (le_mk ⟨rfl, rfl, int_eq (by rw [hl]; simp [sumN]), rfl, rfl, trivial⟩ ⟨rfl, trivial⟩ rfl) ?_
    intro k hk
    have hs2 := sumN_le (f := fun c => if parF s c = -1 then rollS (parF s) (nth ms) s.tops.length c else 0) (b := 3200) (n := k) (by omega) fun c _ => by
      have := roll_in hn hM c
      split <;> omega
    (conv => whnf); (repeat (first | (refine arith_i ⟨by omega, by omega⟩ ?_; conv => whnf) | (refine need_i (by first | omega | (simp only [List.length_append, List.length_cons, List.length_nil]; omega)) ?_; conv => whnf) | ((with_reducible refine branch_tt ?_); conv => whnf) | ((with_reducible refine branch_ff ?_); conv => whnf) | (with_reducible refine branch_not ?_)))
    refine branch_d (fun h => ?_) (fun h => ?_)
    · have hin := roll_in hn hM k
      (conv => whnf); (repeat (first | (refine arith_i ⟨by omega, by omega⟩ ?_; conv => whnf) | (refine need_i (by first | omega | (simp only [List.length_append, List.length_cons, List.length_nil]; omega)) ?_; conv => whnf) | ((with_reducible refine branch_tt ?_); conv => whnf) | ((with_reducible refine branch_ff ?_); conv => whnf) | (with_reducible refine branch_not ?_)))
      refine idx_m (by omega) (by omega) fun x hx => ?_
      rw [Int.toNat_natCast] at hx
      have hmk := marks_in hM k
      have ex := nth_of hx
      (conv => whnf); (repeat (first | (refine arith_i ⟨by omega, by omega⟩ ?_; conv => whnf) | (refine need_i (by first | omega | (simp only [List.length_append, List.length_cons, List.length_nil]; omega)) ?_; conv => whnf) | ((with_reducible refine branch_tt ?_); conv => whnf) | ((with_reducible refine branch_ff ?_); conv => whnf) | (with_reducible refine branch_not ?_)))
      refine loop_i (fun i : Nat => i ≤ s.tops.length) (fun i => mkSt [(4, .ptr 4 0), (5, ints ms), (6, .int .i64 (sumN (nth ms) s.tops.length - sumN (fun c => if parF s c = -1 then rollS (parF s) (nth ms) s.tops.length c else 0) k)), (8, ints (rolled s ms)), (10, .int .i64 k), (11, .int .i64 (x + sumN (fun c => if parF s c = k then rollS (parF s) (nth ms) s.tops.length c else 0) i)), (12, .int .i64 i)] [(4, sylC s)] true) (fun i => s.tops.length - i) 0 (Nat.zero_le _) (le_mk ⟨rfl, rfl, rfl, rfl, rfl, int_eq (by simp [sumN]), rfl, trivial⟩ ⟨rfl, trivial⟩ rfl) ?_
      intro i hi
      have hs3 := sumN_le (f := fun c => if parF s c = k then rollS (parF s) (nth ms) s.tops.length c else 0) (b := 3200) (n := i) (by omega) fun c _ => by
        have := roll_in hn hM c
        split <;> omega
      (conv => whnf); (repeat (first | (refine arith_i ⟨by omega, by omega⟩ ?_; conv => whnf) | (refine need_i (by first | omega | (simp only [List.length_append, List.length_cons, List.length_nil]; omega)) ?_; conv => whnf) | ((with_reducible refine branch_tt ?_); conv => whnf) | ((with_reducible refine branch_ff ?_); conv => whnf) | (with_reducible refine branch_not ?_)))
      refine branch_d (fun h2 => ?_) (fun h2 => ?_)
      · (conv => whnf); (repeat (first | (refine arith_i ⟨by omega, by omega⟩ ?_; conv => whnf) | (refine need_i (by first | omega | (simp only [List.length_append, List.length_cons, List.length_nil]; omega)) ?_; conv => whnf) | ((with_reducible refine branch_tt ?_); conv => whnf) | ((with_reducible refine branch_ff ?_); conv => whnf) | (with_reducible refine branch_not ?_)))
        refine idx_m (by omega) (by omega) fun t ht => ?_
        rw [Int.toNat_natCast] at ht
        have e := par_at ht
        (conv => whnf); (repeat (first | (refine arith_i ⟨by omega, by omega⟩ ?_; conv => whnf) | (refine need_i (by first | omega | (simp only [List.length_append, List.length_cons, List.length_nil]; omega)) ?_; conv => whnf) | ((with_reducible refine branch_tt ?_); conv => whnf) | ((with_reducible refine branch_ff ?_); conv => whnf) | (with_reducible refine branch_not ?_)))
        refine branch_e (fun h3 => ?_) (fun h3 => ?_)
        · have hin2 := roll_in hn hM i
          (conv => whnf); (repeat (first | (refine arith_i ⟨by omega, by omega⟩ ?_; conv => whnf) | (refine need_i (by first | omega | (simp only [List.length_append, List.length_cons, List.length_nil]; omega)) ?_; conv => whnf) | ((with_reducible refine branch_tt ?_); conv => whnf) | ((with_reducible refine branch_ff ?_); conv => whnf) | (with_reducible refine branch_not ?_)))
          refine idx_m (by omega) (by omega) fun y hy => ?_
          rw [Int.toNat_natCast, rolled_at (by omega)] at hy
          injection hy with hy
          rw [hy] at hin2
          (conv => whnf); (repeat (first | (refine arith_i ⟨by omega, by omega⟩ ?_; conv => whnf) | (refine need_i (by first | omega | (simp only [List.length_append, List.length_cons, List.length_nil]; omega)) ?_; conv => whnf) | ((with_reducible refine branch_tt ?_); conv => whnf) | ((with_reducible refine branch_ff ?_); conv => whnf) | (with_reducible refine branch_not ?_)))
          exact ⟨i + 1, by show i + 1 ≤ _; omega, le_mk ⟨rfl, rfl, rfl, rfl, rfl, int_eq (by rw [sumN, if_pos (by rw [e]; exact h3), hy]; omega), rfl, trivial⟩ ⟨rfl, trivial⟩ rfl, by omega⟩
        · (conv => whnf); (repeat (first | (refine arith_i ⟨by omega, by omega⟩ ?_; conv => whnf) | (refine need_i (by first | omega | (simp only [List.length_append, List.length_cons, List.length_nil]; omega)) ?_; conv => whnf) | ((with_reducible refine branch_tt ?_); conv => whnf) | ((with_reducible refine branch_ff ?_); conv => whnf) | (with_reducible refine branch_not ?_)))
          exact ⟨i + 1, by show i + 1 ≤ _; omega, le_mk ⟨rfl, rfl, rfl, rfl, rfl, int_eq (by rw [sumN, if_neg (by rw [e]; exact h3)]; omega), rfl, trivial⟩ ⟨rfl, trivial⟩ rfl, by omega⟩
      · have hin3 : i = s.tops.length := by omega
        subst hin3
        (conv => whnf); (repeat (first | (refine arith_i ⟨by omega, by omega⟩ ?_; conv => whnf) | (refine need_i (by first | omega | (simp only [List.length_append, List.length_cons, List.length_nil]; omega)) ?_; conv => whnf) | ((with_reducible refine branch_tt ?_); conv => whnf) | ((with_reducible refine branch_ff ?_); conv => whnf) | (with_reducible refine branch_not ?_)))
        refine idx_m (by omega) (by omega) fun y hy => ?_
        rw [Int.toNat_natCast, rolled_at (by omega)] at hy
        injection hy with hy
        have hstep := roll_step hV (nth ms) (n := s.tops.length) (j := k) (by omega)
        (conv => whnf); (repeat (first | (refine arith_i ⟨by omega, by omega⟩ ?_; conv => whnf) | (refine need_i (by first | omega | (simp only [List.length_append, List.length_cons, List.length_nil]; omega)) ?_; conv => whnf) | ((with_reducible refine branch_tt ?_); conv => whnf) | ((with_reducible refine branch_ff ?_); conv => whnf) | (with_reducible refine branch_not ?_)))
        refine branch_n (fun h3 => absurd (by rw [← hy, hstep, ex]) h3) (fun h3 => ?_)
        (conv => whnf); (repeat (first | (refine arith_i ⟨by omega, by omega⟩ ?_; conv => whnf) | (refine need_i (by first | omega | (simp only [List.length_append, List.length_cons, List.length_nil]; omega)) ?_; conv => whnf) | ((with_reducible refine branch_tt ?_); conv => whnf) | ((with_reducible refine branch_ff ?_); conv => whnf) | (with_reducible refine branch_not ?_)))
        refine idx_m (by omega) (by omega) fun t ht => ?_
        rw [Int.toNat_natCast] at ht
        have e := par_at ht
        (conv => whnf); (repeat (first | (refine arith_i ⟨by omega, by omega⟩ ?_; conv => whnf) | (refine need_i (by first | omega | (simp only [List.length_append, List.length_cons, List.length_nil]; omega)) ?_; conv => whnf) | ((with_reducible refine branch_tt ?_); conv => whnf) | ((with_reducible refine branch_ff ?_); conv => whnf) | (with_reducible refine branch_not ?_)))
        refine branch_e (fun h4 => ?_) (fun h4 => ?_)
        · (conv => whnf); (repeat (first | (refine arith_i ⟨by omega, by omega⟩ ?_; conv => whnf) | (refine need_i (by first | omega | (simp only [List.length_append, List.length_cons, List.length_nil]; omega)) ?_; conv => whnf) | ((with_reducible refine branch_tt ?_); conv => whnf) | ((with_reducible refine branch_ff ?_); conv => whnf) | (with_reducible refine branch_not ?_)))
          refine idx_m (by omega) (by omega) fun y' hy' => ?_
          rw [Int.toNat_natCast, rolled_at (by omega)] at hy'
          injection hy' with hy'
          rw [hy'] at hin
          (conv => whnf); (repeat (first | (refine arith_i ⟨by omega, by omega⟩ ?_; conv => whnf) | (refine need_i (by first | omega | (simp only [List.length_append, List.length_cons, List.length_nil]; omega)) ?_; conv => whnf) | ((with_reducible refine branch_tt ?_); conv => whnf) | ((with_reducible refine branch_ff ?_); conv => whnf) | (with_reducible refine branch_not ?_)))
          exact ⟨k + 1, by omega, le_mk ⟨rfl, rfl, int_eq (by rw [sumN, if_pos (by rw [e]; exact h4), hy']; omega), rfl, rfl, trivial⟩ ⟨rfl, trivial⟩ rfl, by omega⟩
        · (conv => whnf); (repeat (first | (refine arith_i ⟨by omega, by omega⟩ ?_; conv => whnf) | (refine need_i (by first | omega | (simp only [List.length_append, List.length_cons, List.length_nil]; omega)) ?_; conv => whnf) | ((with_reducible refine branch_tt ?_); conv => whnf) | ((with_reducible refine branch_ff ?_); conv => whnf) | (with_reducible refine branch_not ?_)))
          exact ⟨k + 1, by omega, le_mk ⟨rfl, rfl, int_eq (by rw [sumN, if_neg (by rw [e]; exact h4)]; omega), rfl, rfl, trivial⟩ ⟨rfl, trivial⟩ rfl, by omega⟩
    · have hkn : k = s.tops.length := by omega
      subst hkn
      (conv => whnf); (repeat (first | (refine arith_i ⟨by omega, by omega⟩ ?_; conv => whnf) | (refine need_i (by first | omega | (simp only [List.length_append, List.length_cons, List.length_nil]; omega)) ?_; conv => whnf) | ((with_reducible refine branch_tt ?_); conv => whnf) | ((with_reducible refine branch_ff ?_); conv => whnf) | (with_reducible refine branch_not ?_)))
      refine branch_t (by rw [roots_all hV]; simp) ?_
      (conv => whnf); (repeat (first | (refine arith_i ⟨by omega, by omega⟩ ?_; conv => whnf) | (refine need_i (by first | omega | (simp only [List.length_append, List.length_cons, List.length_nil]; omega)) ?_; conv => whnf) | ((with_reducible refine branch_tt ?_); conv => whnf) | ((with_reducible refine branch_ff ?_); conv => whnf) | (with_reducible refine branch_not ?_)))
      refine call_e awake_ok ?_
      (conv => whnf); (repeat (first | (refine arith_i ⟨by omega, by omega⟩ ?_; conv => whnf) | (refine need_i (by first | omega | (simp only [List.length_append, List.length_cons, List.length_nil]; omega)) ?_; conv => whnf) | ((with_reducible refine branch_tt ?_); conv => whnf) | ((with_reducible refine branch_ff ?_); conv => whnf) | (with_reducible refine branch_not ?_)))
      exact ret_p rfl rfl
end Go.Proofs.Ytcnjdkfppobdhaa
