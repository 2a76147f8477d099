/- Layer 25: there is an allocation exactly if no set of scripts is short. -/
import Derived.Test.YtkbkdlkfpmcmdaaGL25y
import Derived.Test.YtkbkdlkfpmcmdaaGL25z
namespace Go.Proofs.Ytkbkdlkfpmcmdaa
set_option linter.unusedVariables false
set_option linter.unusedSimpArgs false
set_option linter.unnecessarySimpa false
set_option linter.unusedSectionVars false
set_option maxRecDepth 10000
open Go.RowKit
theorem all_none {l : List Mrk} {s : List Scr} {q : Nat} (hl : MksOk l) (hs : ScsOk s) (hq1 : 1 ≤ q) (hq2 : q ≤ 2) (h : lstF l s q = none) : Good Try.prog TT false 17 [mrksV l, scrsV s, .int .i64 q] (· = .tup [.lst 2 [], .int .i64 41]) :=
  (allocate_ok l s q hl hs).mono fun r hr => by
    have hk : okK (q : Int) = true := by simp [okK]; omega
    rcases hr with ⟨h1, -⟩ | ⟨-, -, h3⟩ | ⟨a, F, -, h2, -⟩
    · rw [hk] at h1; cases h1
    · exact h3
    · rw [h] at h2; cases h2
theorem all_some {l : List Mrk} {s : List Scr} {q a : Nat} (hl : MksOk l) (hs : ScsOk s) (hq1 : 1 ≤ q) (hq2 : q ≤ 2) (h : lstF l s q = some a) : Good Try.prog TT false 17 [mrksV l, scrsV s, .int .i64 q] (fun r => ∃ F, Upto (elF l s) (limF (capF l) a) s.length l.length q s.length F ∧ r = .tup [.lst 2 ((tasksT l s F.A s.length).map encT), .int .i64 0]) :=
  (allocate_ok l s q hl hs).mono fun r hr => by
    have hk : okK (q : Int) = true := by simp [okK]; omega
    rcases hr with ⟨h1, -⟩ | ⟨-, h2, -⟩ | ⟨a', F, -, h2, hU, h3⟩
    · rw [hk] at h1; cases h1
    · rw [h] at h2; cases h2
    · rw [h] at h2; injection h2 with h2; subst h2
      exact ⟨F, hU, h3⟩
theorem wit_none {l : List Mrk} {s : List Scr} {q : Nat} (hl : MksOk l) (hs : ScsOk s) (hq1 : 1 ≤ q) (hq2 : q ≤ 2) (h : (witP l s q).1 = none) : Good Try.prog TT false 18 [mrksV l, scrsV s, .int .i64 q] (· = .tup [ints [], .bool false]) :=
  (witness_ok l s q hl hs).mono fun r hr => hr.trans (by
    have hk : okK (q : Int) = true := by simp [okK]; omega
    rw [witV, if_pos hk, Int.toNat_natCast, show witP l s q = (none, (witP l s q).2) from Prod.ext h rfl])
theorem wit_some {l : List Mrk} {s : List Scr} {q i : Nat} (hl : MksOk l) (hs : ScsOk s) (hq1 : 1 ≤ q) (hq2 : q ≤ 2) (h : (witP l s q).1 = some i) : Good Try.prog TT false 18 [mrksV l, scrsV s, .int .i64 q] (· = .tup [ints (setW l i (witP l s q).2 s.length), .bool true]) :=
  (witness_ok l s q hl hs).mono fun r hr => hr.trans (by
    have hk : okK (q : Int) = true := by simp [okK]; omega
    rw [witV, if_pos hk, Int.toNat_natCast, show witP l s q = (some i, (witP l s q).2) from Prod.ext h rfl])
theorem bit_tab : ∀ (c : _root_.Fin 257) (i : _root_.Fin 8), IntKind.wrap .i64 (((BitVec.ofInt (IntKind.bits .i64) ((c.val : Int).fdiv (2 ^ min (i.val : Int).toNat (IntKind.bits .i64))) &&& BitVec.ofInt (IntKind.bits .i64) 1).toNat : Nat) : Int) = if c.val.testBit i.val = true then 1 else 0 := by decide +kernel
set_option maxHeartbeats 8000000 in
theorem hall_law (xs : List Int) (b : Int) (hb : 0 ≤ b ∧ b ≤ 255) : Good Try.prog TT false 3 [ints xs, .int .u8 b] (· = .bool true) := by
  rcases Nat.lt_or_ge 600 xs.length with h600 | h600
  · refine good_of mixed tabOk Try.func3 rfl rfl Try.ntmps3 Try.results3 rfl rfl ?_
    (conv => whnf); (repeat' (first | (refine arith_i ⟨by omega, by omega⟩ ?_; conv => whnf) | (refine arith_u ⟨by omega, by omega⟩ ?_; conv => whnf) | (refine arith_8 ⟨by omega, by omega⟩ ?_; conv => whnf) | (refine need_i (by first | omega | (simp only [List.length_cons, List.length_nil]; omega) | (simp only [List.length_append, List.length_cons, List.length_nil, List.length_map, List.length_replicate, List.length_modify]; omega)) ?_; conv => whnf) | ((with_reducible refine branch_tt ?_); conv => whnf) | ((with_reducible refine branch_ff ?_); conv => whnf) | (with_reducible refine branch_not ?_) | ((refine call_e ((light_ok xs).mono fun r h => h.trans (bool_eq (decide_eq_false (by omega) : _ = false))) ?_); conv => whnf) | ((refine call_e sane_ok ?_); conv => whnf) | ((with_reducible refine slc_e ?_); conv => whnf) | ((with_reducible refine callS_a ?_); conv => whnf) | ((with_reducible refine bld_a ?_); conv => whnf) | ((with_reducible refine own_e ?_); conv => whnf) | ((with_reducible refine mkmap_b ?_); conv => whnf) | ((with_reducible refine branch_d (fun hq => ?_) (fun hq => ?_)) <;> (try (exfalso; omega)) <;> (conv => whnf)) | ((with_reducible refine branch_e (fun hq => ?_) (fun hq => ?_)) <;> (try (exfalso; omega)) <;> (conv => whnf)) | ((with_reducible refine branch_n (fun hq => ?_) (fun hq => ?_)) <;> (try (exfalso; omega)) <;> (conv => whnf)) | ((with_reducible refine branch_i (fun hq => ?_) (fun hq => ?_)) <;> (try (exfalso; omega)) <;> (conv => whnf))))
    exact ret_p rfl rfl
  have hm := Int.tmod_nonneg (a := b) (b := 2) hb.1
  have hm2 := Int.tmod_lt_of_pos b (show (0 : Int) < 2 by decide)
  obtain ⟨q, hq, hq1, hq2⟩ : ∃ q : Nat, 1 + b.tmod 2 = q ∧ 1 ≤ q ∧ q ≤ 2 := ⟨(1 + b.tmod 2).toNat, by omega, by omega, by omega⟩
  refine good_of mixed tabOk Try.func3 rfl rfl Try.ntmps3 Try.results3 rfl rfl ?_
  (conv => whnf); (repeat' (first | (refine arith_i ⟨by omega, by omega⟩ ?_; conv => whnf) | (refine arith_u ⟨by omega, by omega⟩ ?_; conv => whnf) | (refine arith_8 ⟨by omega, by omega⟩ ?_; conv => whnf) | (refine need_i (by first | omega | (simp only [List.length_cons, List.length_nil]; omega) | (simp only [List.length_append, List.length_cons, List.length_nil, List.length_map, List.length_replicate, List.length_modify]; omega)) ?_; conv => whnf) | ((with_reducible refine branch_tt ?_); conv => whnf) | ((with_reducible refine branch_ff ?_); conv => whnf) | (with_reducible refine branch_not ?_) | ((refine call_e ((light_ok xs).mono fun r h => h.trans (bool_eq (decide_eq_true (by omega) : _ = true))) ?_); conv => whnf) | ((refine call_e (roll_ok xs h600) ?_); conv => whnf) | (((refine call_i markers_ok fun r hr => ?_; obtain ⟨l, rfl, hl, hl2, hl5, hid⟩ := hr)); conv => whnf) | (((refine call_i papers_ok fun r hr => ?_; obtain ⟨ps, es, rfl, hp3, hpo⟩ := hr)); conv => whnf) | (((refine call_i (scripts_ok ps hp3 hpo) fun r hr => ?_; obtain ⟨s, rfl, hs8, hs, hpg⟩ := hr)); conv => whnf) | (((rw [hq]; cases hw : (witP l s q).1 <;> first | (have hL : ∃ a, lstF l s q = some a := (Option.ne_none_iff_exists'.1 fun e => (wit_least hq1 hq2).1 e hw); obtain ⟨a, hL⟩ := hL; refine call_i (all_some hl hs hq1 hq2 hL) fun r hr => ?_; obtain ⟨F, hU, rfl⟩ := hr) | (refine call_e (all_none hl hs hq1 hq2 ((wit_least hq1 hq2).2 (by rw [hw]; simp))) ?_))); conv => whnf) | ((refine call_e (wit_none hl hs hq1 hq2 hw) ?_); conv => whnf) | ((refine call_e (wit_some hl hs hq1 hq2 hw) ?_); conv => whnf) | ((refine call_e ((short_ok l s q _ (Nat.le_trans setW_len (by omega)) hl hs).mono fun r h => h.trans (bool_eq (wit_short hq1 hq2 (Prod.ext hw rfl)))) ?_); conv => whnf) | ((with_reducible refine slc_e ?_); conv => whnf) | ((with_reducible refine callS_a ?_); conv => whnf) | ((with_reducible refine bld_a ?_); conv => whnf) | ((with_reducible refine own_e ?_); conv => whnf) | ((with_reducible refine mkmap_b ?_); conv => whnf) | ((with_reducible refine branch_d (fun hq => ?_) (fun hq => ?_)) <;> (try (exfalso; omega)) <;> (conv => whnf)) | ((with_reducible refine branch_e (fun hq => ?_) (fun hq => ?_)) <;> (try (exfalso; omega)) <;> (conv => whnf)) | ((with_reducible refine branch_n (fun hq => ?_) (fun hq => ?_)) <;> (try (exfalso; omega)) <;> (conv => whnf)) | ((with_reducible refine branch_i (fun hq => ?_) (fun hq => ?_)) <;> (try (exfalso; omega)) <;> (conv => whnf))))
  · obtain ⟨N, hN⟩ : ∃ N, N = 2 ^ s.length := ⟨_, rfl⟩
    have hN8 : N ≤ 2 ^ 8 := by rw [hN]; exact Nat.pow_le_pow_right (by omega) hs8
    have hN1 : 1 ≤ N := by rw [hN]; exact Nat.one_le_two_pow
    have LS : (s.map encR).length = s.length := List.length_map ..
    have hshl : (1 * 2 ^ min (((s.map encR).length : Int)).toNat (IntKind.bits .i64) : Int) = (N : Nat) := by
      rw [hN, LS, Int.toNat_natCast, show min s.length (IntKind.bits .i64) = s.length from Nat.min_eq_left (by show s.length ≤ 64; omega), Int.one_mul]; simp
    have hsome : someB l s q N = false := by rw [hN, some_hall hq1 hq2, hw]; rfl
    refine loop_i (fun c : Nat => 1 ≤ c ∧ c ≤ N) (fun c => mkSt [(6, mrksV l), (9, scrsV s), (10, .int .i64 q), (14, .bool false), (15, .bool (someB l s q c)), (16, .int .i64 c)] [] true) (fun c => N - c) 1 ⟨Nat.le_refl _, hN1⟩ (le_mk ⟨rfl, rfl, rfl, rfl, bool_eq some_one.symm, rfl, trivial⟩ trivial rfl) ?_
    rintro c ⟨hc1, hc⟩
    rcases Nat.lt_or_ge c N with hcl | hcl
    · (conv => whnf); (repeat' (first | (refine arith_i ⟨by omega, by omega⟩ ?_; conv => whnf) | (refine arith_u ⟨by omega, by omega⟩ ?_; conv => whnf) | (refine arith_8 ⟨by omega, by omega⟩ ?_; conv => whnf) | (refine need_i (by first | omega | (simp only [List.length_cons, List.length_nil]; omega) | (simp only [List.length_append, List.length_cons, List.length_nil, List.length_map, List.length_replicate, List.length_modify]; omega)) ?_; conv => whnf) | ((with_reducible refine branch_tt ?_); conv => whnf) | ((with_reducible refine branch_ff ?_); conv => whnf) | (with_reducible refine branch_not ?_) | (((rw [hshl]; refine arith_i ⟨by omega, by omega⟩ ?_)); conv => whnf) | ((with_reducible refine slc_e ?_); conv => whnf) | ((with_reducible refine callS_a ?_); conv => whnf) | ((with_reducible refine bld_a ?_); conv => whnf) | ((with_reducible refine own_e ?_); conv => whnf) | ((with_reducible refine mkmap_b ?_); conv => whnf) | ((with_reducible refine branch_d (fun hq => ?_) (fun hq => ?_)) <;> (try (exfalso; omega)) <;> (conv => whnf)) | ((with_reducible refine branch_e (fun hq => ?_) (fun hq => ?_)) <;> (try (exfalso; omega)) <;> (conv => whnf)) | ((with_reducible refine branch_n (fun hq => ?_) (fun hq => ?_)) <;> (try (exfalso; omega)) <;> (conv => whnf)) | ((with_reducible refine branch_i (fun hq => ?_) (fun hq => ?_)) <;> (try (exfalso; omega)) <;> (conv => whnf))))
      refine loop_i (fun i : Nat => i ≤ s.length) (fun i => mkSt [(6, mrksV l), (9, scrsV s), (10, .int .i64 q), (14, .bool false), (15, .bool (someB l s q c)), (16, .int .i64 c), (17, .own 300 3 1 ((setR (fun j => c.testBit j) i).map encI)), (77, .int .i64 s.length), (78, .int .i64 i)] [] true) (fun i => s.length - i) 0 (Nat.zero_le _) (Le.trans (le_adopt 17 300 3 1 rfl) (le_mk ⟨rfl, rfl, rfl, rfl, rfl, rfl, rfl, int_eq (by rw [LS]), rfl, trivial⟩ trivial rfl)) ?_
      intro i hi
      have LR := setR_le (R := fun j => c.testBit j) (n := i)
      have LR2 : ((setR (fun j => c.testBit j) i).map encI).length = (setR (fun j => c.testBit j) i).length := List.length_map ..
      rcases Nat.lt_or_ge i s.length with hil | hil
      · have hbit := bit_tab ⟨c, by omega⟩ ⟨i, by omega⟩
        have hnx : setR (fun j => c.testBit j) (i + 1) = setR (fun j => c.testBit j) i ++ if c.testBit i = true then [(i : Int)] else [] := setR_next
        (conv => whnf); (repeat' (first | (refine arith_i ⟨by omega, by omega⟩ ?_; conv => whnf) | (refine arith_u ⟨by omega, by omega⟩ ?_; conv => whnf) | (refine arith_8 ⟨by omega, by omega⟩ ?_; conv => whnf) | (refine need_i (by first | omega | (simp only [List.length_cons, List.length_nil]; omega) | (simp only [List.length_append, List.length_cons, List.length_nil, List.length_map, List.length_replicate, List.length_modify]; omega)) ?_; conv => whnf) | ((with_reducible refine branch_tt ?_); conv => whnf) | ((with_reducible refine branch_ff ?_); conv => whnf) | (with_reducible refine branch_not ?_) | ((with_reducible refine slc_e ?_); conv => whnf) | ((with_reducible refine callS_a ?_); conv => whnf) | ((with_reducible refine bld_a ?_); conv => whnf) | ((with_reducible refine own_e ?_); conv => whnf) | ((with_reducible refine mkmap_b ?_); conv => whnf) | ((with_reducible refine branch_d (fun hq => ?_) (fun hq => ?_)) <;> (try (exfalso; omega)) <;> (conv => whnf)) | ((with_reducible refine branch_e (fun hq => ?_) (fun hq => ?_)) <;> (try (exfalso; omega)) <;> (conv => whnf)) | ((with_reducible refine branch_n (fun hq => ?_) (fun hq => ?_)) <;> (try (exfalso; omega)) <;> (conv => whnf)) | ((with_reducible refine branch_i (fun hq => ?_) (fun hq => ?_)) <;> (try (exfalso; omega)) <;> (conv => whnf))))
        · rename_i hq
          have hT : c.testBit i = true := by
            refine Classical.byContradiction fun hn => ?_
            have := hbit.symm.trans hq
            rw [if_neg hn] at this; cases this
          rw [if_pos hT] at hnx
          have e1 : (setR (fun j => c.testBit j) (i + 1)).map encI = (setR (fun j => c.testBit j) i).map encI ++ [[.int .i64 i]] := by rw [hnx, List.map_append]; rfl
          exact ⟨i + 1, by omega, by rw [e1]; exact (le_mk (by repeat' (first | exact trivial | rfl | apply And.intro)) (by repeat' (first | exact trivial | rfl | apply And.intro)) rfl), by omega⟩
        · rename_i hq
          have hT : ¬ c.testBit i = true := fun hn => hq (hbit.trans (if_pos hn))
          rw [if_neg hT, List.append_nil] at hnx
          exact ⟨i + 1, by omega, by rw [hnx]; exact (le_mk (by repeat' (first | exact trivial | rfl | apply And.intro)) (by repeat' (first | exact trivial | rfl | apply And.intro)) rfl), by omega⟩
      · obtain rfl : i = s.length := by omega
        (conv => whnf); (repeat' (first | (refine arith_i ⟨by omega, by omega⟩ ?_; conv => whnf) | (refine arith_u ⟨by omega, by omega⟩ ?_; conv => whnf) | (refine arith_8 ⟨by omega, by omega⟩ ?_; conv => whnf) | (refine need_i (by first | omega | (simp only [List.length_cons, List.length_nil]; omega) | (simp only [List.length_append, List.length_cons, List.length_nil, List.length_map, List.length_replicate, List.length_modify]; omega)) ?_; conv => whnf) | ((with_reducible refine branch_tt ?_); conv => whnf) | ((with_reducible refine branch_ff ?_); conv => whnf) | (with_reducible refine branch_not ?_) | ((refine call_e (short_ok l s q (setR (fun j => c.testBit j) s.length) (by omega) hl hs) ?_); conv => whnf) | ((with_reducible refine slc_e ?_); conv => whnf) | ((with_reducible refine callS_a ?_); conv => whnf) | ((with_reducible refine bld_a ?_); conv => whnf) | ((with_reducible refine own_e ?_); conv => whnf) | ((with_reducible refine mkmap_b ?_); conv => whnf) | ((with_reducible refine branch_d (fun hq => ?_) (fun hq => ?_)) <;> (try (exfalso; omega)) <;> (conv => whnf)) | ((with_reducible refine branch_e (fun hq => ?_) (fun hq => ?_)) <;> (try (exfalso; omega)) <;> (conv => whnf)) | ((with_reducible refine branch_n (fun hq => ?_) (fun hq => ?_)) <;> (try (exfalso; omega)) <;> (conv => whnf)) | ((with_reducible refine branch_i (fun hq => ?_) (fun hq => ?_)) <;> (try (exfalso; omega)) <;> (conv => whnf))))
        · rename_i hq
          have e1 : someB l s q (c + 1) = true := by rw [someB, hq]; rfl
          exact ⟨c + 1, ⟨by omega, by omega⟩, by rw [e1]; exact (le_mk (by repeat' (first | exact trivial | rfl | apply And.intro)) (by repeat' (first | exact trivial | rfl | apply And.intro)) rfl), by omega⟩
        · rename_i hq
          have e1 : someB l s q (c + 1) = shortB l s q (setR (fun j => c.testBit j) s.length) := by rw [someB, hq]; rfl
          exact ⟨c + 1, ⟨by omega, by omega⟩, by rw [e1]; exact (le_mk (by repeat' (first | exact trivial | rfl | apply And.intro)) (by repeat' (first | exact trivial | rfl | apply And.intro)) rfl), by omega⟩
    · obtain rfl : c = N := by omega
      (conv => whnf); (repeat' (first | (refine arith_i ⟨by omega, by omega⟩ ?_; conv => whnf) | (refine arith_u ⟨by omega, by omega⟩ ?_; conv => whnf) | (refine arith_8 ⟨by omega, by omega⟩ ?_; conv => whnf) | (refine need_i (by first | omega | (simp only [List.length_cons, List.length_nil]; omega) | (simp only [List.length_append, List.length_cons, List.length_nil, List.length_map, List.length_replicate, List.length_modify]; omega)) ?_; conv => whnf) | ((with_reducible refine branch_tt ?_); conv => whnf) | ((with_reducible refine branch_ff ?_); conv => whnf) | (with_reducible refine branch_not ?_) | (((rw [hshl]; refine arith_i ⟨by omega, by omega⟩ ?_)); conv => whnf) | ((refine call_e sane_ok ?_); conv => whnf) | ((with_reducible refine slc_e ?_); conv => whnf) | ((with_reducible refine callS_a ?_); conv => whnf) | ((with_reducible refine bld_a ?_); conv => whnf) | ((with_reducible refine own_e ?_); conv => whnf) | ((with_reducible refine mkmap_b ?_); conv => whnf) | ((with_reducible refine branch_d (fun hq => ?_) (fun hq => ?_)) <;> (try (exfalso; omega)) <;> (conv => whnf)) | ((with_reducible refine branch_e (fun hq => ?_) (fun hq => ?_)) <;> (try (exfalso; omega)) <;> (conv => whnf)) | ((with_reducible refine branch_n (fun hq => ?_) (fun hq => ?_)) <;> (try (exfalso; omega)) <;> (conv => whnf)) | ((with_reducible refine branch_i (fun hq => ?_) (fun hq => ?_)) <;> (try (exfalso; omega)) <;> (conv => whnf))))
      · exact ret_p rfl rfl
      · rename_i hq
        rw [hsome] at hq
        exact absurd hq (by decide)
  · rename_i hq
    exact absurd hq (by decide)
  · obtain ⟨N, hN⟩ : ∃ N, N = 2 ^ s.length := ⟨_, rfl⟩
    have hN8 : N ≤ 2 ^ 8 := by rw [hN]; exact Nat.pow_le_pow_right (by omega) hs8
    have hN1 : 1 ≤ N := by rw [hN]; exact Nat.one_le_two_pow
    have LS : (s.map encR).length = s.length := List.length_map ..
    have hshl : (1 * 2 ^ min (((s.map encR).length : Int)).toNat (IntKind.bits .i64) : Int) = (N : Nat) := by
      rw [hN, LS, Int.toNat_natCast, show min s.length (IntKind.bits .i64) = s.length from Nat.min_eq_left (by show s.length ≤ 64; omega), Int.one_mul]; simp
    have hsome : someB l s q N = true := by rw [hN, some_hall hq1 hq2, hw]; rfl
    refine loop_i (fun c : Nat => 1 ≤ c ∧ c ≤ N) (fun c => mkSt [(6, mrksV l), (9, scrsV s), (10, .int .i64 q), (14, .bool true), (15, .bool (someB l s q c)), (16, .int .i64 c)] [] true) (fun c => N - c) 1 ⟨Nat.le_refl _, hN1⟩ (le_mk ⟨rfl, rfl, rfl, rfl, bool_eq some_one.symm, rfl, trivial⟩ trivial rfl) ?_
    rintro c ⟨hc1, hc⟩
    rcases Nat.lt_or_ge c N with hcl | hcl
    · (conv => whnf); (repeat' (first | (refine arith_i ⟨by omega, by omega⟩ ?_; conv => whnf) | (refine arith_u ⟨by omega, by omega⟩ ?_; conv => whnf) | (refine arith_8 ⟨by omega, by omega⟩ ?_; conv => whnf) | (refine need_i (by first | omega | (simp only [List.length_cons, List.length_nil]; omega) | (simp only [List.length_append, List.length_cons, List.length_nil, List.length_map, List.length_replicate, List.length_modify]; omega)) ?_; conv => whnf) | ((with_reducible refine branch_tt ?_); conv => whnf) | ((with_reducible refine branch_ff ?_); conv => whnf) | (with_reducible refine branch_not ?_) | (((rw [hshl]; refine arith_i ⟨by omega, by omega⟩ ?_)); conv => whnf) | ((with_reducible refine slc_e ?_); conv => whnf) | ((with_reducible refine callS_a ?_); conv => whnf) | ((with_reducible refine bld_a ?_); conv => whnf) | ((with_reducible refine own_e ?_); conv => whnf) | ((with_reducible refine mkmap_b ?_); conv => whnf) | ((with_reducible refine branch_d (fun hq => ?_) (fun hq => ?_)) <;> (try (exfalso; omega)) <;> (conv => whnf)) | ((with_reducible refine branch_e (fun hq => ?_) (fun hq => ?_)) <;> (try (exfalso; omega)) <;> (conv => whnf)) | ((with_reducible refine branch_n (fun hq => ?_) (fun hq => ?_)) <;> (try (exfalso; omega)) <;> (conv => whnf)) | ((with_reducible refine branch_i (fun hq => ?_) (fun hq => ?_)) <;> (try (exfalso; omega)) <;> (conv => whnf))))
      refine loop_i (fun i : Nat => i ≤ s.length) (fun i => mkSt [(6, mrksV l), (9, scrsV s), (10, .int .i64 q), (14, .bool true), (15, .bool (someB l s q c)), (16, .int .i64 c), (17, .own 300 3 1 ((setR (fun j => c.testBit j) i).map encI)), (77, .int .i64 s.length), (78, .int .i64 i)] [] true) (fun i => s.length - i) 0 (Nat.zero_le _) (Le.trans (le_adopt 17 300 3 1 rfl) (le_mk ⟨rfl, rfl, rfl, rfl, rfl, rfl, rfl, int_eq (by rw [LS]), rfl, trivial⟩ trivial rfl)) ?_
      intro i hi
      have LR := setR_le (R := fun j => c.testBit j) (n := i)
      have LR2 : ((setR (fun j => c.testBit j) i).map encI).length = (setR (fun j => c.testBit j) i).length := List.length_map ..
      rcases Nat.lt_or_ge i s.length with hil | hil
      · have hbit := bit_tab ⟨c, by omega⟩ ⟨i, by omega⟩
        have hnx : setR (fun j => c.testBit j) (i + 1) = setR (fun j => c.testBit j) i ++ if c.testBit i = true then [(i : Int)] else [] := setR_next
        (conv => whnf); (repeat' (first | (refine arith_i ⟨by omega, by omega⟩ ?_; conv => whnf) | (refine arith_u ⟨by omega, by omega⟩ ?_; conv => whnf) | (refine arith_8 ⟨by omega, by omega⟩ ?_; conv => whnf) | (refine need_i (by first | omega | (simp only [List.length_cons, List.length_nil]; omega) | (simp only [List.length_append, List.length_cons, List.length_nil, List.length_map, List.length_replicate, List.length_modify]; omega)) ?_; conv => whnf) | ((with_reducible refine branch_tt ?_); conv => whnf) | ((with_reducible refine branch_ff ?_); conv => whnf) | (with_reducible refine branch_not ?_) | ((with_reducible refine slc_e ?_); conv => whnf) | ((with_reducible refine callS_a ?_); conv => whnf) | ((with_reducible refine bld_a ?_); conv => whnf) | ((with_reducible refine own_e ?_); conv => whnf) | ((with_reducible refine mkmap_b ?_); conv => whnf) | ((with_reducible refine branch_d (fun hq => ?_) (fun hq => ?_)) <;> (try (exfalso; omega)) <;> (conv => whnf)) | ((with_reducible refine branch_e (fun hq => ?_) (fun hq => ?_)) <;> (try (exfalso; omega)) <;> (conv => whnf)) | ((with_reducible refine branch_n (fun hq => ?_) (fun hq => ?_)) <;> (try (exfalso; omega)) <;> (conv => whnf)) | ((with_reducible refine branch_i (fun hq => ?_) (fun hq => ?_)) <;> (try (exfalso; omega)) <;> (conv => whnf))))
        · rename_i hq
          have hT : c.testBit i = true := by
            refine Classical.byContradiction fun hn => ?_
            have := hbit.symm.trans hq
            rw [if_neg hn] at this; cases this
          rw [if_pos hT] at hnx
          have e1 : (setR (fun j => c.testBit j) (i + 1)).map encI = (setR (fun j => c.testBit j) i).map encI ++ [[.int .i64 i]] := by rw [hnx, List.map_append]; rfl
          exact ⟨i + 1, by omega, by rw [e1]; exact (le_mk (by repeat' (first | exact trivial | rfl | apply And.intro)) (by repeat' (first | exact trivial | rfl | apply And.intro)) rfl), by omega⟩
        · rename_i hq
          have hT : ¬ c.testBit i = true := fun hn => hq (hbit.trans (if_pos hn))
          rw [if_neg hT, List.append_nil] at hnx
          exact ⟨i + 1, by omega, by rw [hnx]; exact (le_mk (by repeat' (first | exact trivial | rfl | apply And.intro)) (by repeat' (first | exact trivial | rfl | apply And.intro)) rfl), by omega⟩
      · obtain rfl : i = s.length := by omega
        (conv => whnf); (repeat' (first | (refine arith_i ⟨by omega, by omega⟩ ?_; conv => whnf) | (refine arith_u ⟨by omega, by omega⟩ ?_; conv => whnf) | (refine arith_8 ⟨by omega, by omega⟩ ?_; conv => whnf) | (refine need_i (by first | omega | (simp only [List.length_cons, List.length_nil]; omega) | (simp only [List.length_append, List.length_cons, List.length_nil, List.length_map, List.length_replicate, List.length_modify]; omega)) ?_; conv => whnf) | ((with_reducible refine branch_tt ?_); conv => whnf) | ((with_reducible refine branch_ff ?_); conv => whnf) | (with_reducible refine branch_not ?_) | ((refine call_e (short_ok l s q (setR (fun j => c.testBit j) s.length) (by omega) hl hs) ?_); conv => whnf) | ((with_reducible refine slc_e ?_); conv => whnf) | ((with_reducible refine callS_a ?_); conv => whnf) | ((with_reducible refine bld_a ?_); conv => whnf) | ((with_reducible refine own_e ?_); conv => whnf) | ((with_reducible refine mkmap_b ?_); conv => whnf) | ((with_reducible refine branch_d (fun hq => ?_) (fun hq => ?_)) <;> (try (exfalso; omega)) <;> (conv => whnf)) | ((with_reducible refine branch_e (fun hq => ?_) (fun hq => ?_)) <;> (try (exfalso; omega)) <;> (conv => whnf)) | ((with_reducible refine branch_n (fun hq => ?_) (fun hq => ?_)) <;> (try (exfalso; omega)) <;> (conv => whnf)) | ((with_reducible refine branch_i (fun hq => ?_) (fun hq => ?_)) <;> (try (exfalso; omega)) <;> (conv => whnf))))
        · rename_i hq
          have e1 : someB l s q (c + 1) = true := by rw [someB, hq]; rfl
          exact ⟨c + 1, ⟨by omega, by omega⟩, by rw [e1]; exact (le_mk (by repeat' (first | exact trivial | rfl | apply And.intro)) (by repeat' (first | exact trivial | rfl | apply And.intro)) rfl), by omega⟩
        · rename_i hq
          have e1 : someB l s q (c + 1) = shortB l s q (setR (fun j => c.testBit j) s.length) := by rw [someB, hq]; rfl
          exact ⟨c + 1, ⟨by omega, by omega⟩, by rw [e1]; exact (le_mk (by repeat' (first | exact trivial | rfl | apply And.intro)) (by repeat' (first | exact trivial | rfl | apply And.intro)) rfl), by omega⟩
    · obtain rfl : c = N := by omega
      (conv => whnf); (repeat' (first | (refine arith_i ⟨by omega, by omega⟩ ?_; conv => whnf) | (refine arith_u ⟨by omega, by omega⟩ ?_; conv => whnf) | (refine arith_8 ⟨by omega, by omega⟩ ?_; conv => whnf) | (refine need_i (by first | omega | (simp only [List.length_cons, List.length_nil]; omega) | (simp only [List.length_append, List.length_cons, List.length_nil, List.length_map, List.length_replicate, List.length_modify]; omega)) ?_; conv => whnf) | ((with_reducible refine branch_tt ?_); conv => whnf) | ((with_reducible refine branch_ff ?_); conv => whnf) | (with_reducible refine branch_not ?_) | (((rw [hshl]; refine arith_i ⟨by omega, by omega⟩ ?_)); conv => whnf) | ((refine call_e sane_ok ?_); conv => whnf) | ((with_reducible refine slc_e ?_); conv => whnf) | ((with_reducible refine callS_a ?_); conv => whnf) | ((with_reducible refine bld_a ?_); conv => whnf) | ((with_reducible refine own_e ?_); conv => whnf) | ((with_reducible refine mkmap_b ?_); conv => whnf) | ((with_reducible refine branch_d (fun hq => ?_) (fun hq => ?_)) <;> (try (exfalso; omega)) <;> (conv => whnf)) | ((with_reducible refine branch_e (fun hq => ?_) (fun hq => ?_)) <;> (try (exfalso; omega)) <;> (conv => whnf)) | ((with_reducible refine branch_n (fun hq => ?_) (fun hq => ?_)) <;> (try (exfalso; omega)) <;> (conv => whnf)) | ((with_reducible refine branch_i (fun hq => ?_) (fun hq => ?_)) <;> (try (exfalso; omega)) <;> (conv => whnf))))
      · exact ret_p rfl rfl
      · rename_i hq
        rw [hsome] at hq
        exact absurd hq (by decide)
  · rename_i hq
    exact absurd hq (by decide)
end Go.Proofs.Ytkbkdlkfpmcmdaa
