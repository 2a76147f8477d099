/- Layer 10: Form. -/
import Derived.Test.YtpglaaiecgjmmaaGL06a
import Derived.Test.YtpglaaiecgjmmaaGL08r
import Derived.Test.YtpglaaiecgjmmaaGL10e
namespace Go.Proofs.Ytpglaaiecgjmmaa
set_option linter.unusedVariables false
set_option linter.unusedSimpArgs false
set_option linter.unnecessarySimpa false
set_option linter.unusedSectionVars false
set_option maxRecDepth 10000
open Go.RowKit
def plGL06b_0 : Plan := (.take 0 (.take 1 (.take 2 (.take 3 (.take 4 (.take 5 (.take 6 (.take 7 (.take 8 (.take 9 (.take 10 (.take 11 (.take 12 (.take 13 (.take 14 (.take 15 (.take 16 (.take 17 (.take 18 (.take 19 (.take 20 (.take 21 (.take 22 (.take 23 (.take 24 (.take 25 (.take 26 (.take 27 (.take 28 .done)))))))))))))))))))))))))))))
def plGL06b_1 : Plan := (.take 0 (.take 1 (.take 2 (.alt 3 (.take 4 (.take 5 (.take 6 (.take 7 (.take 8 (.take 10 (.alt 9 (.take 11 (.take 12 (.take 13 (.take 14 (.take 15 (.take 16 (.take 17 (.take 18 (.take 19 (.take 20 (.take 22 (.take 23 (.take 24 (.alt 21 (.alt 25 (.take 26 (.take 27 (.take 28 .done))) .stop) (.alt 25 (.alt 21 (.take 26 (.take 27 (.take 28 .done))) .stop) .stop))))))))))))))) .stop))))))) .stop))))
def plGL06b_2 : Plan := (.take 0 (.take 1 (.take 2 (.take 3 (.take 4 (.take 5 (.take 6 (.take 7 (.take 8 (.take 9 (.take 10 (.take 11 (.take 12 (.alt 13 (.alt 14 (.take 15 (.alt 16 .done .stop)) .stop) .stop))))))))))))))
def plGL06b_3 : Plan := (.take 0 (.take 1 (.take 2 (.take 3 (.take 4 (.take 5 (.take 7 (.take 8 (.take 9 (.take 10 (.alt 6 (.alt 11 (.take 12 (.alt 13 (.alt 14 (.take 15 (.alt 16 .done .stop)) .stop) .stop)) .stop) (.alt 11 (.alt 6 (.take 12 (.alt 13 (.alt 14 (.take 15 (.alt 16 .done .stop)) .stop) .stop)) .stop) .stop))))))))))))
def plGL06b_4 : Plan := (.take 0 (.take 2 (.take 3 (.take 4 (.take 5 (.take 7 (.take 8 (.take 9 (.take 10 (.alt 1 (.alt 6 (.alt 11 (.take 12 (.alt 13 (.alt 14 (.take 15 (.alt 16 .done .stop)) .stop) .stop)) .stop) (.alt 11 (.alt 6 (.take 12 (.alt 13 (.alt 14 (.take 15 (.alt 16 .done .stop)) .stop) .stop)) .stop) .stop)) (.alt 6 (.alt 1 (.alt 11 (.take 12 (.alt 13 (.alt 14 (.take 15 (.alt 16 .done .stop)) .stop) .stop)) .stop) (.alt 11 (.take 12 (.alt 1 (.alt 13 (.alt 14 (.take 15 (.alt 16 .done .stop)) .stop) .stop) (.alt 13 (.alt 1 (.alt 14 (.take 15 (.alt 16 .done .stop)) .stop) .stop) .stop))) .stop)) (.alt 11 (.alt 1 (.alt 6 (.take 12 (.alt 13 (.alt 14 (.take 15 (.alt 16 .done .stop)) .stop) .stop)) .stop) (.alt 6 (.take 12 (.alt 1 (.alt 13 (.alt 14 (.take 15 (.alt 16 .done .stop)) .stop) .stop) (.alt 13 (.alt 1 (.alt 14 (.take 15 (.alt 16 .done .stop)) .stop) .stop) .stop))) .stop)) .stop))))))))))))
/-! Form -/
def chosenF (items : List Itm) (ch : List Int) : List Itm := ch.map fun c => items.getD c.toNat ⟨0, 0, ⟨#[]⟩, [], []⟩
def formE (items : List Itm) (ch : List Int) (code : Int) : Int := if ¬ (0 ≤ code ∧ code ≤ 9999 ∧ choiceB ch items.length = true) then 2 else if (chosenF items ch).all (fun x => decide (itemF x = 0)) = false then 1 else 0
def formV (items : List Itm) (ch : List Int) (code : Int) : AV := .tup [if formE items ch code = 0 then .agg [.int .i64 code, .lst 2 ((chosenF items ch).map fun x => encRef (refOf x))] else .agg [.int .i64 0, .lst 2 []], .int .i64 (formE items ch code)]
theorem form_err {items : List Itm} {ch : List Int} {code e : Int} (h : formE items ch code = e) (he : e ≠ 0) : aret (.tup [.agg [.int .i64 0, .nil], .int .i64 e]) (· = formV items ch code) :=
  ret_t (rs := [.agg [.int .i64 0, .lst 2 []], .int .i64 e]) ⟨.inr ⟨_, _, rfl, rfl, rc_p rfl, rc_n, trivial⟩, (rc_p rfl).g, trivial⟩ (by rw [formV, h, if_neg he])
theorem chosen_at {items : List Itm} {ch : List Int} {k : Nat} {c : Int} {x : Itm} (hc : ch[k]? = some c) (hx : items[c.toNat]? = some x) : (chosenF items ch)[k]? = some x := by
  rw [chosenF, List.getElem?_map, hc]
  simp [List.getD_eq_getElem?_getD, hx]
theorem choice_elt {ch : List Int} {n k : Nat} {c : Int} (h : choiceB ch n = true) (hc : ch[k]? = some c) : 0 ≤ c ∧ c < n := by
  have hk : k < ch.length := by
    rcases Nat.lt_or_ge k ch.length with h | h
    · exact h
    · rw [List.getElem?_eq_none h] at hc; cases hc
  have := ChTo.of_all h k hk
  rw [choiceAt] at this
  have e := nth_eq hc
  simp at this
  omega
theorem choice_len {ch : List Int} {n : Nat} (h : choiceB ch n = true) : ch.length ≤ n := by
  have key : ∀ i, i < ch.length → (i : Int) ≤ nth ch i ∧ nth ch i < n := by
    intro i
    induction i with
    | zero => intro hi; have := ChTo.of_all h 0 hi; rw [choiceAt] at this; simp at this; omega
    | succ m ih =>
      intro hi
      have h1 := ih (by omega)
      have := ChTo.of_all h (m + 1) hi
      rw [choiceAt] at this
      simp at this
      omega
  rcases Nat.eq_zero_or_pos ch.length with h0 | h0
  · omega
  · have := key (ch.length - 1) (by omega)
    omega
set_option maxHeartbeats 2000000 in
theorem rChoice_any (ch : List Int) (n : Nat) (hl : ch.length ≤ 9223372036854775807) (hn : n ≤ 1000000) : Good Try.prog TT false 72 [.int .i64 n, ints ch] (· = .bool (choiceB ch n)) := by
  have L : (ch.map encI).length = ch.length := List.length_map ..
  refine good_of mixed tabOk Try.func72 rfl rfl Try.ntmps72 Try.results72 rfl rfl ?_
  (conv => whnf); (repeat' (first | (refine arith_i ⟨by omega, by omega⟩ ?_; conv => whnf) | (refine arith_u ⟨by omega, by omega⟩ ?_; conv => whnf) | (refine arith_8 ⟨by omega, by omega⟩ ?_; conv => whnf) | (refine need_i (by first | omega | (simp only [List.length_append, List.length_cons, List.length_nil, List.length_map, List.length_replicate, List.length_modify]; omega)) ?_; conv => whnf) | ((with_reducible refine branch_tt ?_); conv => whnf) | ((with_reducible refine branch_ff ?_); conv => whnf) | (with_reducible refine branch_not ?_) | ((with_reducible refine slc_e ?_); conv => whnf) | ((with_reducible refine callS_a ?_); conv => whnf) | ((with_reducible refine own_e ?_); conv => whnf) | (refine draw_i 29 plGL06b_0 (by decide +kernel) ?_; (conv => whnf); fail_if_success (guard_target =~ False)) | (refine draw_i 29 plGL06b_1 (by decide +kernel) ?_; (conv => whnf); fail_if_success (guard_target =~ False)) | ((with_reducible refine And.intro ?_ ?_) <;> (conv => whnf)) | (with_reducible exact trivial) | ((with_reducible refine branch_d (fun hq => ?_) (fun hq => ?_)) <;> (try (exfalso; omega)) <;> (conv => whnf)) | ((with_reducible refine branch_e (fun hq => ?_) (fun hq => ?_)) <;> (try (exfalso; omega)) <;> (conv => whnf)) | ((with_reducible refine branch_n (fun hq => ?_) (fun hq => ?_)) <;> (try (exfalso; omega)) <;> (conv => whnf)) | ((with_reducible refine branch_i (fun hq => ?_) (fun hq => ?_)) <;> (try (exfalso; omega)) <;> (conv => whnf))))
  refine loop_i (fun k : Nat => k ≤ ch.length ∧ ChTo ch n k) (fun k => mkSt [(0, .int .i64 n), (1, ints ch), (5, .int .i64 k)] [] false) (fun k => ch.length - k) 0 ⟨Nat.zero_le _, ChTo.zero⟩ (le_mk (by repeat' (first | exact trivial | rfl | apply And.intro)) (by repeat' (first | exact trivial | rfl | apply And.intro)) rfl) ?_
  rintro k ⟨hk, hall⟩
  (conv => whnf); (repeat' (first | (refine arith_i ⟨by omega, by omega⟩ ?_; conv => whnf) | (refine arith_u ⟨by omega, by omega⟩ ?_; conv => whnf) | (refine arith_8 ⟨by omega, by omega⟩ ?_; conv => whnf) | (refine need_i (by first | omega | (simp only [List.length_append, List.length_cons, List.length_nil, List.length_map, List.length_replicate, List.length_modify]; omega)) ?_; conv => whnf) | ((with_reducible refine branch_tt ?_); conv => whnf) | ((with_reducible refine branch_ff ?_); conv => whnf) | (with_reducible refine branch_not ?_) | ((first | refine idx_cs (by assumption) ?_ | (refine idx_c (by omega) fun y hy => ?_; have hn := nth_eq hy) | (refine idx_m (by omega) (by omega) fun z hz => ?_; rw [show ((k : Int) - 1).toNat = k - 1 by omega] at hz; have hnz := nth_eq hz)); conv => whnf) | ((with_reducible refine slc_e ?_); conv => whnf) | ((with_reducible refine callS_a ?_); conv => whnf) | ((with_reducible refine own_e ?_); conv => whnf) | (refine draw_i 29 plGL06b_0 (by decide +kernel) ?_; (conv => whnf); fail_if_success (guard_target =~ False)) | (refine draw_i 29 plGL06b_1 (by decide +kernel) ?_; (conv => whnf); fail_if_success (guard_target =~ False)) | ((with_reducible refine And.intro ?_ ?_) <;> (conv => whnf)) | (with_reducible exact trivial) | ((with_reducible refine branch_d (fun hq => ?_) (fun hq => ?_)) <;> (try (exfalso; omega)) <;> (conv => whnf)) | ((with_reducible refine branch_e (fun hq => ?_) (fun hq => ?_)) <;> (try (exfalso; omega)) <;> (conv => whnf)) | ((with_reducible refine branch_n (fun hq => ?_) (fun hq => ?_)) <;> (try (exfalso; omega)) <;> (conv => whnf)) | ((with_reducible refine branch_i (fun hq => ?_) (fun hq => ?_)) <;> (try (exfalso; omega)) <;> (conv => whnf))))
  all_goals first
    | exact ret_p rfl (bool_eq (ch_fail (k := k) (by omega) (by simp [choiceAt]; omega)).symm)
    | exact ⟨k + 1, ⟨by omega, hall.step (by simp [choiceAt]; omega)⟩, (le_mk (by repeat' (first | exact trivial | rfl | apply And.intro)) (by repeat' (first | exact trivial | rfl | apply And.intro)) rfl), by omega⟩
    | exact ret_p rfl (bool_eq (hall.full (by omega)).symm)
set_option maxHeartbeats 2000000 in
theorem aChoice_any (ch : List Int) (n : Nat) (hl : ch.length ≤ 9223372036854775807) (hn : n ≤ 1000000) : Good Try.prog TT false 109 [ints ch, .int .i64 n] (· = .bool (choiceB ch n)) := by
  have L : (ch.map encI).length = ch.length := List.length_map ..
  refine good_of mixed tabOk Try.func109 rfl rfl Try.ntmps109 Try.results109 rfl rfl ?_
  (conv => whnf); (repeat' (first | (refine arith_i ⟨by omega, by omega⟩ ?_; conv => whnf) | (refine arith_u ⟨by omega, by omega⟩ ?_; conv => whnf) | (refine arith_8 ⟨by omega, by omega⟩ ?_; conv => whnf) | (refine need_i (by first | omega | (simp only [List.length_append, List.length_cons, List.length_nil, List.length_map, List.length_replicate, List.length_modify]; omega)) ?_; conv => whnf) | ((with_reducible refine branch_tt ?_); conv => whnf) | ((with_reducible refine branch_ff ?_); conv => whnf) | (with_reducible refine branch_not ?_) | ((with_reducible refine slc_e ?_); conv => whnf) | ((with_reducible refine callS_a ?_); conv => whnf) | ((with_reducible refine own_e ?_); conv => whnf) | ((with_reducible refine branch_d (fun hq => ?_) (fun hq => ?_)) <;> (try (exfalso; omega)) <;> (conv => whnf)) | ((with_reducible refine branch_e (fun hq => ?_) (fun hq => ?_)) <;> (try (exfalso; omega)) <;> (conv => whnf)) | ((with_reducible refine branch_n (fun hq => ?_) (fun hq => ?_)) <;> (try (exfalso; omega)) <;> (conv => whnf)) | ((with_reducible refine branch_i (fun hq => ?_) (fun hq => ?_)) <;> (try (exfalso; omega)) <;> (conv => whnf))))
  refine loop_i (fun k : Nat => k ≤ ch.length ∧ ChTo ch n k) (fun k => mkSt [(0, ints ch), (1, .int .i64 n), (7, ints ch), (8, .int .i64 (ch.map encI).length), (9, .int .i64 k)] [] false) (fun k => ch.length - k) 0 ⟨Nat.zero_le _, ChTo.zero⟩ (le_mk (by repeat' (first | exact trivial | rfl | apply And.intro)) (by repeat' (first | exact trivial | rfl | apply And.intro)) rfl) ?_
  rintro k ⟨hk, hall⟩
  (conv => whnf); (repeat' (first | (refine arith_i ⟨by omega, by omega⟩ ?_; conv => whnf) | (refine arith_u ⟨by omega, by omega⟩ ?_; conv => whnf) | (refine arith_8 ⟨by omega, by omega⟩ ?_; conv => whnf) | (refine need_i (by first | omega | (simp only [List.length_append, List.length_cons, List.length_nil, List.length_map, List.length_replicate, List.length_modify]; omega)) ?_; conv => whnf) | ((with_reducible refine branch_tt ?_); conv => whnf) | ((with_reducible refine branch_ff ?_); conv => whnf) | (with_reducible refine branch_not ?_) | ((first | refine idx_cs (by assumption) ?_ | (refine idx_c (by omega) fun y hy => ?_; have hn := nth_eq hy) | (refine idx_m (by omega) (by omega) fun z hz => ?_; rw [show ((k : Int) - 1).toNat = k - 1 by omega] at hz; have hnz := nth_eq hz)); conv => whnf) | ((with_reducible refine slc_e ?_); conv => whnf) | ((with_reducible refine callS_a ?_); conv => whnf) | ((with_reducible refine own_e ?_); conv => whnf) | ((with_reducible refine branch_d (fun hq => ?_) (fun hq => ?_)) <;> (try (exfalso; omega)) <;> (conv => whnf)) | ((with_reducible refine branch_e (fun hq => ?_) (fun hq => ?_)) <;> (try (exfalso; omega)) <;> (conv => whnf)) | ((with_reducible refine branch_n (fun hq => ?_) (fun hq => ?_)) <;> (try (exfalso; omega)) <;> (conv => whnf)) | ((with_reducible refine branch_i (fun hq => ?_) (fun hq => ?_)) <;> (try (exfalso; omega)) <;> (conv => whnf))))
  all_goals first
    | exact ret_p rfl (bool_eq (ch_fail (k := k) (by omega) (by simp [choiceAt]; omega)).symm)
    | exact ⟨k + 1, ⟨by omega, hall.step (by simp [choiceAt]; omega)⟩, (le_mk (by repeat' (first | exact trivial | rfl | apply And.intro)) (by repeat' (first | exact trivial | rfl | apply And.intro)) rfl), by omega⟩
    | exact ret_p rfl (bool_eq (hall.full (by omega)).symm)
    | trace_state
theorem form_fin {items : List Itm} {ch : List Int} {code : Int} (h : formE items ch code = 0) {t : Nat} : aret (.tup [.agg [.int .i64 code, .own t 89 2 ((chosenF items ch).map fun x => encRef (refOf x))], .int .i64 0]) (· = formV items ch code) :=
  ret_t (rs := [.agg [.int .i64 code, .lst 2 ((chosenF items ch).map fun x => encRef (refOf x))], .int .i64 0]) ⟨.inr ⟨_, _, rfl, rfl, rc_p rfl, rc_o' rfl, trivial⟩, (rc_p rfl).g, trivial⟩ (by rw [formV, h, if_pos rfl])
theorem form_e1 {items : List Itm} {ch : List Int} {code : Int} {k : Nat} {x : Itm} (h1 : 0 ≤ code) (h2 : code ≤ 9999) (h3 : choiceB ch items.length = true) (hx : (chosenF items ch)[k]? = some x) (he : itemF x ≠ 0) : formE items ch code = 1 := by
  rw [formE, if_neg (by simp [h1, h2, h3]), if_pos (all_bad hx (decide_eq_false he))]
theorem form_e0 {items : List Itm} {ch : List Int} {code : Int} (h1 : 0 ≤ code) (h2 : code ≤ 9999) (h3 : choiceB ch items.length = true) (hx : ∀ i x, i < ch.length → (chosenF items ch)[i]? = some x → itemF x = 0) : formE items ch code = 0 := by
  have LF : (chosenF items ch).length = ch.length := by simp [chosenF]
  rw [formE, if_neg (by simp [h1, h2, h3]), if_neg]
  rw [all_goodL (k := ch.length) (by omega) fun i x hi hh => decide_eq_true (hx i x hi hh)]
  decide
set_option maxHeartbeats 4000000 in
theorem form_ok (items : List Itm) (ch : List Int) (code : Int) (hi : items.length ≤ 1000) (hs : ∀ x ∈ items, ItmS x) (hc : ch.length ≤ 9223372036854775807) : Good Try.prog TT false 46 [itmsV items, ints ch, .int .i64 code] (· = formV items ch code) := by
  have LI : (items.map encX).length = items.length := List.length_map ..
  have LH : (ch.map encI).length = ch.length := List.length_map ..
  have LF : (chosenF items ch).length = ch.length := by simp [chosenF]
  refine good_of mixed tabOk Try.func46 rfl rfl Try.ntmps46 Try.results46 rfl rfl ?_
  (conv => whnf); (repeat' (first | (refine arith_i ⟨by omega, by omega⟩ ?_; conv => whnf) | (refine arith_u ⟨by omega, by omega⟩ ?_; conv => whnf) | (refine arith_8 ⟨by omega, by omega⟩ ?_; conv => whnf) | (refine need_i (by first | omega | (simp only [List.length_append, List.length_cons, List.length_nil, List.length_map, List.length_replicate, List.length_modify]; omega)) ?_; conv => whnf) | ((with_reducible refine branch_tt ?_); conv => whnf) | ((with_reducible refine branch_ff ?_); conv => whnf) | (with_reducible refine branch_not ?_) | (((rw [LI]; refine call_e (aChoice_any ch items.length hc (by omega)) ?_)); conv => whnf) | ((with_reducible refine slc_e ?_); conv => whnf) | ((with_reducible refine callS_a ?_); conv => whnf) | ((with_reducible refine own_e ?_); conv => whnf) | (refine draw_i 16 plGL06b_2 (by decide +kernel) ?_; (conv => whnf); fail_if_success (guard_target =~ False)) | (refine draw_i 16 plGL06b_3 (by decide +kernel) ?_; (conv => whnf); fail_if_success (guard_target =~ False)) | (refine draw_i 16 plGL06b_4 (by decide +kernel) ?_; (conv => whnf); fail_if_success (guard_target =~ False)) | ((with_reducible refine And.intro ?_ ?_) <;> (conv => whnf)) | (with_reducible exact trivial) | ((with_reducible refine branch_d (fun hq => ?_) (fun hq => ?_)) <;> (try (exfalso; omega)) <;> (conv => whnf)) | ((with_reducible refine branch_e (fun hq => ?_) (fun hq => ?_)) <;> (try (exfalso; omega)) <;> (conv => whnf)) | ((with_reducible refine branch_n (fun hq => ?_) (fun hq => ?_)) <;> (try (exfalso; omega)) <;> (conv => whnf)) | ((with_reducible refine branch_i (fun hq => ?_) (fun hq => ?_)) <;> (try (exfalso; omega)) <;> (conv => whnf))))
  all_goals first
    | exact form_err (e := 2) (by rw [formE, if_pos (by omega)]) (by omega)
    | exact form_err (e := 2) (by rw [formE, if_pos (by simp [*])]) (by omega)
    | skip
  have hch : choiceB ch items.length = true := by assumption
  refine loop_i (fun k : Nat => k ≤ ch.length ∧ ∀ i x, i < k → (chosenF items ch)[i]? = some x → itemF x = 0) (fun k => mkSt [(0, itmsV items), (6, .ptr 6 0), (8, .ptr 8 0), (27, ints ch), (28, .int .i64 (ch.map encI).length), (29, .int .i64 k)] [(6, [.int .i64 0, .nil]), (8, [.int .i64 code, .own 900 89 2 (((chosenF items ch).take k).map fun x => encRef (refOf x))])] false) (fun k => ch.length - k) 0 ⟨Nat.zero_le _, nofun⟩ (Le.trans (le_adoptBox 8 1 900 89 2 rfl rfl) (le_mk (by repeat' (first | exact trivial | rfl | apply And.intro)) (by repeat' (first | exact trivial | rfl | apply And.intro)) rfl)) ?_
  rintro k ⟨hk, hall⟩
  have hsn : ∀ x, (chosenF items ch)[k]? = some x → ((chosenF items ch).take (k + 1)).map (fun x => encRef (refOf x)) = ((chosenF items ch).take k).map (fun x => encRef (refOf x)) ++ [encRef (refOf x)] := fun x h => by rw [List.take_add_one, h, List.map_append]; rfl
  have LT : (((chosenF items ch).take k).map fun x => encRef (refOf x)).length = k := by simp; omega
  have LT2 : ((chosenF items ch).take k).length = k := by simp; omega
  have hcl := choice_len hch
  (conv => whnf); (repeat' (first | (refine arith_i ⟨by omega, by omega⟩ ?_; conv => whnf) | (refine arith_u ⟨by omega, by omega⟩ ?_; conv => whnf) | (refine arith_8 ⟨by omega, by omega⟩ ?_; conv => whnf) | (refine need_i (by first | omega | (simp only [List.length_append, List.length_cons, List.length_nil, List.length_map, List.length_replicate, List.length_modify]; omega)) ?_; conv => whnf) | ((with_reducible refine branch_tt ?_); conv => whnf) | ((with_reducible refine branch_ff ?_); conv => whnf) | (with_reducible refine branch_not ?_) | ((refine idx_cs (by assumption) ?_); conv => whnf) | (((refine idx_c (xs := ch) (by omega) fun c hcc => ?_; have hcb := choice_elt hch hcc)); conv => whnf) | ((refine idx_ms (by omega) (by assumption) ?_); conv => whnf) | (((refine idx_m (xs := items) (by omega) (by omega) fun x hx => ?_; have hxs := hs x (List.mem_of_getElem? hx); have hxk := chosen_at hcc hx)); conv => whnf) | ((refine call_e (iCheck_ok x (by have := hxs.1; omega) (by have := hxs.2.1; omega) (by have := hxs.2.2; omega)) ?_); conv => whnf) | ((with_reducible refine slc_e ?_); conv => whnf) | ((with_reducible refine callS_a ?_); conv => whnf) | ((with_reducible refine own_e ?_); conv => whnf) | (refine draw_i 16 plGL06b_2 (by decide +kernel) ?_; (conv => whnf); fail_if_success (guard_target =~ False)) | (refine draw_i 16 plGL06b_3 (by decide +kernel) ?_; (conv => whnf); fail_if_success (guard_target =~ False)) | (refine draw_i 16 plGL06b_4 (by decide +kernel) ?_; (conv => whnf); fail_if_success (guard_target =~ False)) | ((with_reducible refine And.intro ?_ ?_) <;> (conv => whnf)) | (with_reducible exact trivial) | ((with_reducible refine branch_d (fun hq => ?_) (fun hq => ?_)) <;> (try (exfalso; omega)) <;> (conv => whnf)) | ((with_reducible refine branch_e (fun hq => ?_) (fun hq => ?_)) <;> (try (exfalso; omega)) <;> (conv => whnf)) | ((with_reducible refine branch_n (fun hq => ?_) (fun hq => ?_)) <;> (try (exfalso; omega)) <;> (conv => whnf)) | ((with_reducible refine branch_i (fun hq => ?_) (fun hq => ?_)) <;> (try (exfalso; omega)) <;> (conv => whnf))))
  all_goals first
    | exact form_err (form_e1 (by omega) (by omega) hch hxk (by assumption)) (by omega)
    | (refine ⟨k + 1, ⟨by omega, fun i y hiy hy => ?_⟩, by rw [hsn x hxk]; exact (le_mk (by repeat' (first | exact trivial | rfl | apply And.intro)) (by repeat' (first | exact trivial | rfl | apply And.intro)) rfl), by omega⟩
       by_cases e : i = k
       · subst e
         rw [hxk] at hy
         injection hy with hy
         subst hy
         omega
       · exact hall i y (by omega) hy)
    | (have hkk : (chosenF items ch).take k = chosenF items ch := List.take_of_length_le (by omega)
       rw [hkk]
       exact form_fin (form_e0 (by omega) (by omega) hch fun i x hi => hall i x (by omega)))
    | trace_state
set_option maxHeartbeats 4000000 in
theorem rForm_ok (items : List Itm) (ch : List Int) (code : Int) (hi : items.length ≤ 1000) (hs : ∀ x ∈ items, ItmS x) (hc : ch.length ≤ 9223372036854775807) : Good Try.prog TT false 47 [itmsV items, ints ch, .int .i64 code] (· = formV items ch code) := by
  have LI : (items.map encX).length = items.length := List.length_map ..
  have LH : (ch.map encI).length = ch.length := List.length_map ..
  have LF : (chosenF items ch).length = ch.length := by simp [chosenF]
  refine good_of mixed tabOk Try.func47 rfl rfl Try.ntmps47 Try.results47 rfl rfl ?_
  (conv => whnf); (repeat' (first | (refine arith_i ⟨by omega, by omega⟩ ?_; conv => whnf) | (refine arith_u ⟨by omega, by omega⟩ ?_; conv => whnf) | (refine arith_8 ⟨by omega, by omega⟩ ?_; conv => whnf) | (refine need_i (by first | omega | (simp only [List.length_append, List.length_cons, List.length_nil, List.length_map, List.length_replicate, List.length_modify]; omega)) ?_; conv => whnf) | ((with_reducible refine branch_tt ?_); conv => whnf) | ((with_reducible refine branch_ff ?_); conv => whnf) | (with_reducible refine branch_not ?_) | (((rw [LI]; refine call_e (rChoice_any ch items.length hc (by omega)) ?_)); conv => whnf) | ((with_reducible refine slc_e ?_); conv => whnf) | ((with_reducible refine callS_a ?_); conv => whnf) | ((with_reducible refine own_e ?_); conv => whnf) | ((with_reducible refine branch_d (fun hq => ?_) (fun hq => ?_)) <;> (try (exfalso; omega)) <;> (conv => whnf)) | ((with_reducible refine branch_e (fun hq => ?_) (fun hq => ?_)) <;> (try (exfalso; omega)) <;> (conv => whnf)) | ((with_reducible refine branch_n (fun hq => ?_) (fun hq => ?_)) <;> (try (exfalso; omega)) <;> (conv => whnf)) | ((with_reducible refine branch_i (fun hq => ?_) (fun hq => ?_)) <;> (try (exfalso; omega)) <;> (conv => whnf))))
  all_goals first
    | exact form_err (e := 2) (by rw [formE, if_pos (by omega)]) (by omega)
    | exact form_err (e := 2) (by rw [formE, if_pos (by simp [*])]) (by omega)
    | skip
  have hch : choiceB ch items.length = true := by assumption
  refine loop_i (fun k : Nat => k ≤ ch.length ∧ ∀ i x, i < k → (chosenF items ch)[i]? = some x → itemF x = 0) (fun k => mkSt [(0, itmsV items), (1, ints ch), (6, .ptr 6 0), (8, .ptr 8 0), (9, .int .i64 k)] [(6, [.int .i64 0, .nil]), (8, [.int .i64 code, .own 900 89 2 (((chosenF items ch).take k).map fun x => encRef (refOf x))])] false) (fun k => ch.length - k) 0 ⟨Nat.zero_le _, nofun⟩ (Le.trans (le_adoptBox 8 1 900 89 2 rfl rfl) (le_mk (by repeat' (first | exact trivial | rfl | apply And.intro)) (by repeat' (first | exact trivial | rfl | apply And.intro)) rfl)) ?_
  rintro k ⟨hk, hall⟩
  have hsn : ∀ x, (chosenF items ch)[k]? = some x → ((chosenF items ch).take (k + 1)).map (fun x => encRef (refOf x)) = ((chosenF items ch).take k).map (fun x => encRef (refOf x)) ++ [encRef (refOf x)] := fun x h => by rw [List.take_add_one, h, List.map_append]; rfl
  have LT : (((chosenF items ch).take k).map fun x => encRef (refOf x)).length = k := by simp; omega
  have LT2 : ((chosenF items ch).take k).length = k := by simp; omega
  have hcl := choice_len hch
  (conv => whnf); (repeat' (first | (refine arith_i ⟨by omega, by omega⟩ ?_; conv => whnf) | (refine arith_u ⟨by omega, by omega⟩ ?_; conv => whnf) | (refine arith_8 ⟨by omega, by omega⟩ ?_; conv => whnf) | (refine need_i (by first | omega | (simp only [List.length_append, List.length_cons, List.length_nil, List.length_map, List.length_replicate, List.length_modify]; omega)) ?_; conv => whnf) | ((with_reducible refine branch_tt ?_); conv => whnf) | ((with_reducible refine branch_ff ?_); conv => whnf) | (with_reducible refine branch_not ?_) | ((refine idx_cs (by assumption) ?_); conv => whnf) | (((refine idx_c (xs := ch) (by omega) fun c hcc => ?_; have hcb := choice_elt hch hcc)); conv => whnf) | ((refine idx_ms (by omega) (by assumption) ?_); conv => whnf) | (((refine idx_m (xs := items) (by omega) (by omega) fun x hx => ?_; have hxs := hs x (List.mem_of_getElem? hx); have hxk := chosen_at hcc hx)); conv => whnf) | ((refine call_e (rICheck_ok x (by have := hxs.1; omega) (by have := hxs.2.1; omega) (by have := hxs.2.2; omega)) ?_); conv => whnf) | ((with_reducible refine slc_e ?_); conv => whnf) | ((with_reducible refine callS_a ?_); conv => whnf) | ((with_reducible refine own_e ?_); conv => whnf) | ((with_reducible refine branch_d (fun hq => ?_) (fun hq => ?_)) <;> (try (exfalso; omega)) <;> (conv => whnf)) | ((with_reducible refine branch_e (fun hq => ?_) (fun hq => ?_)) <;> (try (exfalso; omega)) <;> (conv => whnf)) | ((with_reducible refine branch_n (fun hq => ?_) (fun hq => ?_)) <;> (try (exfalso; omega)) <;> (conv => whnf)) | ((with_reducible refine branch_i (fun hq => ?_) (fun hq => ?_)) <;> (try (exfalso; omega)) <;> (conv => whnf))))
  all_goals first
    | exact form_err (form_e1 (by omega) (by omega) hch hxk (by assumption)) (by omega)
    | (refine ⟨k + 1, ⟨by omega, fun i y hiy hy => ?_⟩, by rw [hsn x hxk]; exact (le_mk (by repeat' (first | exact trivial | rfl | apply And.intro)) (by repeat' (first | exact trivial | rfl | apply And.intro)) rfl), by omega⟩
       by_cases e : i = k
       · subst e
         rw [hxk] at hy
         injection hy with hy
         subst hy
         omega
       · exact hall i y (by omega) hy)
    | (have hkk : (chosenF items ch).take k = chosenF items ch := List.take_of_length_le (by omega)
       rw [hkk]
       exact form_fin (form_e0 (by omega) (by omega) hch fun i x hi => hall i x (by omega)))
    | trace_state
end Go.Proofs.Ytpglaaiecgjmmaa
