/- Layer 10: comparing lists; Repeat, of the program and of the reference. -/
import Derived.Test.YtjgaacjfoaohnaaGL10d
import Derived.Test.YtjgaacjfoaohnaaGL09l
import Derived.Test.YtjgaacjfoaohnaaGL00

namespace Go.Proofs.Ytjgaacjfoaohnaa
set_option linter.unusedVariables false
set_option linter.unusedSimpArgs false
set_option linter.unnecessarySimpa false
set_option linter.unusedSectionVars false
set_option maxRecDepth 10000
open Go.RowKit
def plGL10e_0 : Plan := (.take 0 (.take 1 (.take 2 (.take 3 (.take 5 (.take 6 (.take 7 (.take 8 (.alt 4 (.take 9 (.alt 10 (.alt 11 (.take 12 (.alt 13 .done .stop)) .stop) .stop)) .stop)))))))))
set_option maxHeartbeats 2000000 in
theorem aChoice_ok (ch : List Int) (n : Nat) (hl : ch.length ≤ 1000000) (hn : n ≤ 1000000) : Good Try.prog TT false 56 [ints ch, .int .i64 n] (· = .bool (choiceB ch n)) := by
  have L : (ch.map encI).length = ch.length := List.length_map ..
  refine good_of mixed tabOk Try.func56 rfl rfl Try.ntmps56 Try.results56 rfl rfl ?_
  (conv => whnf); (repeat (first | (refine arith_i ⟨by omega, by omega⟩ ?_; conv => whnf) | (refine need_i (by first | omega | (simp only [List.length_append, List.length_cons, List.length_nil]; omega)) ?_; conv => whnf) | ((with_reducible refine branch_tt ?_); conv => whnf) | ((with_reducible refine branch_ff ?_); conv => whnf) | (with_reducible refine branch_not ?_) | ((with_reducible refine slc_e ?_); conv => whnf) | ((with_reducible refine callS_a ?_); conv => whnf) | ((with_reducible refine own_e ?_); conv => whnf)))
  refine loop_i (fun k : Nat => k ≤ ch.length ∧ ChTo ch n k) (fun k => mkSt [(0, ints ch), (1, .int .i64 n), (7, ints ch), (8, .int .i64 (ch.map encI).length), (9, .int .i64 k)] [] false) (fun k => ch.length - k) 0 ⟨Nat.zero_le _, ChTo.zero⟩ (le_mk ⟨rfl, rfl, rfl, rfl, rfl, trivial⟩ trivial rfl) ?_
  rintro k ⟨hk, hall⟩
  (conv => whnf); (repeat (first | (refine arith_i ⟨by omega, by omega⟩ ?_; conv => whnf) | (refine need_i (by first | omega | (simp only [List.length_append, List.length_cons, List.length_nil]; omega)) ?_; conv => whnf) | ((with_reducible refine branch_tt ?_); conv => whnf) | ((with_reducible refine branch_ff ?_); conv => whnf) | (with_reducible refine branch_not ?_) | ((with_reducible refine slc_e ?_); conv => whnf) | ((with_reducible refine callS_a ?_); conv => whnf) | ((with_reducible refine own_e ?_); conv => whnf)))
  refine branch_d (fun h => ?_) (fun h => ?_)
  · (conv => whnf); (repeat (first | (refine arith_i ⟨by omega, by omega⟩ ?_; conv => whnf) | (refine need_i (by first | omega | (simp only [List.length_append, List.length_cons, List.length_nil]; omega)) ?_; conv => whnf) | ((with_reducible refine branch_tt ?_); conv => whnf) | ((with_reducible refine branch_ff ?_); conv => whnf) | (with_reducible refine branch_not ?_) | ((with_reducible refine slc_e ?_); conv => whnf) | ((with_reducible refine callS_a ?_); conv => whnf) | ((with_reducible refine own_e ?_); conv => whnf)))
    refine idx_m (by omega) (by omega) fun y hy => ?_
    rw [Int.toNat_natCast] at hy
    have hn := nth_eq hy
    (conv => whnf); (repeat (first | (refine arith_i ⟨by omega, by omega⟩ ?_; conv => whnf) | (refine need_i (by first | omega | (simp only [List.length_append, List.length_cons, List.length_nil]; omega)) ?_; conv => whnf) | ((with_reducible refine branch_tt ?_); conv => whnf) | ((with_reducible refine branch_ff ?_); conv => whnf) | (with_reducible refine branch_not ?_) | ((with_reducible refine slc_e ?_); conv => whnf) | ((with_reducible refine callS_a ?_); conv => whnf) | ((with_reducible refine own_e ?_); conv => whnf)))
    refine branch_d (fun h1 => ?_) (fun h1 => ?_)
    · (conv => whnf); (repeat (first | (refine arith_i ⟨by omega, by omega⟩ ?_; conv => whnf) | (refine need_i (by first | omega | (simp only [List.length_append, List.length_cons, List.length_nil]; omega)) ?_; conv => whnf) | ((with_reducible refine branch_tt ?_); conv => whnf) | ((with_reducible refine branch_ff ?_); conv => whnf) | (with_reducible refine branch_not ?_) | ((with_reducible refine slc_e ?_); conv => whnf) | ((with_reducible refine callS_a ?_); conv => whnf) | ((with_reducible refine own_e ?_); conv => whnf)))
      exact ret_p rfl (bool_eq (ch_fail (k := k) (by omega) (by simp [choiceAt, hn]; omega)).symm)
    · (conv => whnf); (repeat (first | (refine arith_i ⟨by omega, by omega⟩ ?_; conv => whnf) | (refine need_i (by first | omega | (simp only [List.length_append, List.length_cons, List.length_nil]; omega)) ?_; conv => whnf) | ((with_reducible refine branch_tt ?_); conv => whnf) | ((with_reducible refine branch_ff ?_); conv => whnf) | (with_reducible refine branch_not ?_) | ((with_reducible refine slc_e ?_); conv => whnf) | ((with_reducible refine callS_a ?_); conv => whnf) | ((with_reducible refine own_e ?_); conv => whnf)))
      refine branch_d (fun h2 => ?_) (fun h2 => ?_)
      · (conv => whnf); (repeat (first | (refine arith_i ⟨by omega, by omega⟩ ?_; conv => whnf) | (refine need_i (by first | omega | (simp only [List.length_append, List.length_cons, List.length_nil]; omega)) ?_; conv => whnf) | ((with_reducible refine branch_tt ?_); conv => whnf) | ((with_reducible refine branch_ff ?_); conv => whnf) | (with_reducible refine branch_not ?_) | ((with_reducible refine slc_e ?_); conv => whnf) | ((with_reducible refine callS_a ?_); conv => whnf) | ((with_reducible refine own_e ?_); conv => whnf)))
        exact ret_p rfl (bool_eq (ch_fail (k := k) (by omega) (by simp [choiceAt, hn]; omega)).symm)
      · (conv => whnf); (repeat (first | (refine arith_i ⟨by omega, by omega⟩ ?_; conv => whnf) | (refine need_i (by first | omega | (simp only [List.length_append, List.length_cons, List.length_nil]; omega)) ?_; conv => whnf) | ((with_reducible refine branch_tt ?_); conv => whnf) | ((with_reducible refine branch_ff ?_); conv => whnf) | (with_reducible refine branch_not ?_) | ((with_reducible refine slc_e ?_); conv => whnf) | ((with_reducible refine callS_a ?_); conv => whnf) | ((with_reducible refine own_e ?_); conv => whnf)))
        refine branch_d (fun h3 => ?_) (fun h3 => ?_)
        · (conv => whnf); (repeat (first | (refine arith_i ⟨by omega, by omega⟩ ?_; conv => whnf) | (refine need_i (by first | omega | (simp only [List.length_append, List.length_cons, List.length_nil]; omega)) ?_; conv => whnf) | ((with_reducible refine branch_tt ?_); conv => whnf) | ((with_reducible refine branch_ff ?_); conv => whnf) | (with_reducible refine branch_not ?_) | ((with_reducible refine slc_e ?_); conv => whnf) | ((with_reducible refine callS_a ?_); conv => whnf) | ((with_reducible refine own_e ?_); conv => whnf)))
          refine idx_m (by omega) (by omega) fun z hz => ?_
          have e1 : ((k : Int) - 1).toNat = k - 1 := by omega
          rw [e1] at hz
          have hz' := nth_eq hz
          (conv => whnf); (repeat (first | (refine arith_i ⟨by omega, by omega⟩ ?_; conv => whnf) | (refine need_i (by first | omega | (simp only [List.length_append, List.length_cons, List.length_nil]; omega)) ?_; conv => whnf) | ((with_reducible refine branch_tt ?_); conv => whnf) | ((with_reducible refine branch_ff ?_); conv => whnf) | (with_reducible refine branch_not ?_) | ((with_reducible refine slc_e ?_); conv => whnf) | ((with_reducible refine callS_a ?_); conv => whnf) | ((with_reducible refine own_e ?_); conv => whnf)))
          refine branch_d (fun h4 => ?_) (fun h4 => ?_)
          · (conv => whnf); (repeat (first | (refine arith_i ⟨by omega, by omega⟩ ?_; conv => whnf) | (refine need_i (by first | omega | (simp only [List.length_append, List.length_cons, List.length_nil]; omega)) ?_; conv => whnf) | ((with_reducible refine branch_tt ?_); conv => whnf) | ((with_reducible refine branch_ff ?_); conv => whnf) | (with_reducible refine branch_not ?_) | ((with_reducible refine slc_e ?_); conv => whnf) | ((with_reducible refine callS_a ?_); conv => whnf) | ((with_reducible refine own_e ?_); conv => whnf)))
            exact ret_p rfl (bool_eq (ch_fail (k := k) (by omega) (by simp [choiceAt, hn, hz']; omega)).symm)
          · (conv => whnf); (repeat (first | (refine arith_i ⟨by omega, by omega⟩ ?_; conv => whnf) | (refine need_i (by first | omega | (simp only [List.length_append, List.length_cons, List.length_nil]; omega)) ?_; conv => whnf) | ((with_reducible refine branch_tt ?_); conv => whnf) | ((with_reducible refine branch_ff ?_); conv => whnf) | (with_reducible refine branch_not ?_) | ((with_reducible refine slc_e ?_); conv => whnf) | ((with_reducible refine callS_a ?_); conv => whnf) | ((with_reducible refine own_e ?_); conv => whnf)))
            exact ⟨k + 1, ⟨by omega, hall.step (by simp [choiceAt, hn, hz']; omega)⟩, le_mk ⟨rfl, rfl, rfl, rfl, rfl, trivial⟩ trivial rfl, by omega⟩
        · (conv => whnf); (repeat (first | (refine arith_i ⟨by omega, by omega⟩ ?_; conv => whnf) | (refine need_i (by first | omega | (simp only [List.length_append, List.length_cons, List.length_nil]; omega)) ?_; conv => whnf) | ((with_reducible refine branch_tt ?_); conv => whnf) | ((with_reducible refine branch_ff ?_); conv => whnf) | (with_reducible refine branch_not ?_) | ((with_reducible refine slc_e ?_); conv => whnf) | ((with_reducible refine callS_a ?_); conv => whnf) | ((with_reducible refine own_e ?_); conv => whnf)))
          exact ⟨k + 1, ⟨by omega, hall.step (by have : k = 0 := by omega
                                                 simp [choiceAt, hn, this] at h1 h2 ⊢
                                                 subst this
                                                 simp [hn]
                                                 omega)⟩, le_mk ⟨rfl, rfl, rfl, rfl, rfl, trivial⟩ trivial rfl, by omega⟩
  · (conv => whnf); (repeat (first | (refine arith_i ⟨by omega, by omega⟩ ?_; conv => whnf) | (refine need_i (by first | omega | (simp only [List.length_append, List.length_cons, List.length_nil]; omega)) ?_; conv => whnf) | ((with_reducible refine branch_tt ?_); conv => whnf) | ((with_reducible refine branch_ff ?_); conv => whnf) | (with_reducible refine branch_not ?_) | ((with_reducible refine slc_e ?_); conv => whnf) | ((with_reducible refine callS_a ?_); conv => whnf) | ((with_reducible refine own_e ?_); conv => whnf)))
    exact ret_p rfl (bool_eq (hall.full (by omega)).symm)
/-- The row that excludes a choice. -/
def repCo (n : Nat) (ch : List Int) : List Int := (List.range n).map fun i : Nat => if hasB ch (i : Int) then 1 else -1
def repRow (n : Nat) (ch : List Int) : Row := ⟨repCo n ch, -12, ch.length - 1⟩
/-- The program without a choice. -/
def repP (P : Prog) (ch : List Int) : Prog := ⟨P.costs, P.rows ++ [repRow P.costs.length ch]⟩
def repE (P : Prog) (f : Bool) (ch : List Int) : Int := if validB P = false then 1 else if f = false ∨ choiceB ch P.costs.length = false then 10 else if 60 ≤ P.rows.length then 3 else 0
def repV (P : Prog) (f : Bool) (ch : List Int) : AV := .tup [if repE P f ch = 0 then progV (repP P ch) else progV ⟨[], []⟩, .int .i64 (repE P f ch)]
theorem repCo_nil {n : Nat} : repCo n [] = List.replicate n (-1) := by
  refine List.ext_getElem? fun i => ?_
  rw [repCo, List.getElem?_map, List.getElem?_replicate]
  split
  · next h => rw [List.getElem?_range h]; simp [hasB]
  · next h => rw [List.getElem?_eq_none (by simp; omega)]; rfl
theorem repCo_set {n j : Nat} {ch : List Int} {c : Int} (hc : ch[j]? = some c) (hn : 0 ≤ c ∧ c < n) : repCo n (ch.take (j + 1)) = (repCo n (ch.take j)).set c.toNat 1 := by
  have htk : ch.take (j + 1) = ch.take j ++ [c] := by rw [List.take_add_one, hc]; rfl
  refine List.ext_getElem? fun i => ?_
  rw [htk, List.getElem?_set, repCo, repCo, List.getElem?_map, List.getElem?_map]
  rcases Nat.lt_or_ge i n with h | h
  · rw [List.getElem?_range h]
    simp only [Option.toList_some, Option.map_some, List.length_map, List.length_range]
    by_cases e : c.toNat = i
    · have hm : hasB (ch.take j ++ [c]) (i : Int) = true := hasB_iff.2 (List.mem_append.2 (.inr (by simp; omega)))
      rw [if_pos e, if_pos hm, if_pos (show c.toNat < n by omega)]
    · rw [if_neg e]
      have hm : hasB (ch.take j ++ [c]) (i : Int) = hasB (ch.take j) (i : Int) := by
        rw [Bool.eq_iff_iff, hasB_iff, hasB_iff, List.mem_append]
        exact ⟨fun h => h.elim id fun h => by simp at h; omega, .inl⟩
      rw [hm]
  · rw [List.getElem?_eq_none (by simp; omega)]
    split
    · next e => simp; omega
    · rfl
theorem rep_err {P : Prog} {f : Bool} {ch : List Int} {e : Int} (h : repE P f ch = e) (he : e ≠ 0) : aret (.tup [.agg [.nil, .nil], .int .i64 e]) (· = repV P f ch) :=
  ret_t (rs := [progV ⟨[], []⟩, .int .i64 e]) ⟨.inr ⟨_, _, rfl, rfl, rc_n, rc_n, trivial⟩, (rc_p rfl).g, trivial⟩ (by rw [repV, h, if_neg he])
set_option maxHeartbeats 4000000 in
theorem repeatP_ok (P : Prog) (pl : Pln) (hP : Fits P) (hc : pl.chosen.length ≤ 1000000) : Good Try.prog TT false 27 [progV P, planV pl] (· = repV P pl.found pl.chosen) := by
  have LC : (P.costs.map encI).length = P.costs.length := List.length_map ..
  have LR : (P.rows.map encRow).length = P.rows.length := List.length_map ..
  have LH : (pl.chosen.map encI).length = pl.chosen.length := List.length_map ..
  refine good_of mixed tabOk Try.func27 rfl rfl Try.ntmps27 Try.results27 rfl rfl ?_
  (conv => whnf); (repeat' (first | (refine arith_i ⟨by omega, by omega⟩ ?_; conv => whnf) | (refine arith_u ⟨by omega, by omega⟩ ?_; conv => whnf) | (refine arith_8 ⟨by omega, by omega⟩ ?_; conv => whnf) | (refine need_i (by first | omega | (simp only [List.length_append, List.length_cons, List.length_nil, List.length_map, List.length_replicate, List.length_modify]; omega)) ?_; conv => whnf) | ((with_reducible refine branch_tt ?_); conv => whnf) | ((with_reducible refine branch_ff ?_); conv => whnf) | (with_reducible refine branch_not ?_) | ((refine call_e (valid_ok P hP.1 hP.2.1 hP.2.2) ?_); conv => whnf) | (((rw [LC]; refine call_e (aChoice_ok pl.chosen P.costs.length hc hP.1) ?_)); conv => whnf) | (((refine call_e (clone_ok P.costs hP.1) ?_)); conv => whnf) | ((with_reducible refine slc_e ?_); conv => whnf) | ((with_reducible refine callS_a ?_); conv => whnf) | ((with_reducible refine own_e ?_); conv => whnf) | (refine draw_i 13 plGL10e_0 (by decide +kernel) ?_; (conv => whnf); fail_if_success (guard_target =~ False)) | ((with_reducible refine And.intro ?_ ?_) <;> (conv => whnf)) | (with_reducible exact trivial) | ((with_reducible refine branch_d (fun hq => ?_) (fun hq => ?_)) <;> (try (exfalso; omega)) <;> (conv => whnf)) | ((with_reducible refine branch_e (fun hq => ?_) (fun hq => ?_)) <;> (try (exfalso; omega)) <;> (conv => whnf)) | ((with_reducible refine branch_n (fun hq => ?_) (fun hq => ?_)) <;> (try (exfalso; omega)) <;> (conv => whnf)) | ((with_reducible refine branch_i (fun hq => ?_) (fun hq => ?_)) <;> (try (exfalso; omega)) <;> (conv => whnf))))
  · exact rep_err (by rw [repE, if_neg (by simp [*]), if_neg (by simp [*]), if_pos (by omega)]) (by omega)
  · have hv : validB P = true := by assumption
    have hch : choiceB pl.chosen P.costs.length = true := by assumption
    have hcl := (validB_parts hv).1
    have hch2 := fun j h => choice_in (i := j) hch h
    refine loop_i (fun k : Nat => k ≤ P.rows.length) (fun k => mkSt [(2, .ptr 2 0), (3, .ptr 3 0), (4, .ptr 4 0), (6, .ptr 6 0), (39, rowsV P.rows), (40, .int .i64 (P.rows.map encRow).length), (41, .int .i64 k)] [(2, [ints P.costs, rowsV P.rows]), (3, [.bool pl.found, ints pl.chosen, .int .i64 pl.cost, ndsV pl.nodes]), (4, [.nil, .nil]), (6, [.own 36 3 1 (P.costs.map encI), .own 900 69 3 ((P.rows.take k).map encRow)])] false) (fun k => P.rows.length - k) 0 (Nat.zero_le _) (Le.trans (le_adoptBox 6 1 900 69 3 rfl rfl) (le_mk (by repeat' (first | exact trivial | rfl | apply And.intro)) (by repeat' (first | exact trivial | rfl | apply And.intro)) rfl)) ?_
    intro k hk
    have LT : ((P.rows.take k).map encRow).length = k := by simp; omega
    have LT2 : (P.rows.take k).length = k := by simp; omega
    (conv => whnf); (repeat' (first | (refine arith_i ⟨by omega, by omega⟩ ?_; conv => whnf) | (refine arith_u ⟨by omega, by omega⟩ ?_; conv => whnf) | (refine arith_8 ⟨by omega, by omega⟩ ?_; conv => whnf) | (refine need_i (by first | omega | (simp only [List.length_append, List.length_cons, List.length_nil, List.length_map, List.length_replicate, List.length_modify]; omega)) ?_; conv => whnf) | ((with_reducible refine branch_tt ?_); conv => whnf) | ((with_reducible refine branch_ff ?_); conv => whnf) | (with_reducible refine branch_not ?_) | (((refine idx_c (xs := P.rows) (by omega) fun r hrr => ?_; have hvr := valid_rows hv (List.mem_of_getElem? hrr); have hsn : (P.rows.take (k + 1)).map encRow = (P.rows.take k).map encRow ++ [encRow r] := (by rw [List.take_add_one, hrr, List.map_append]; rfl))); conv => whnf) | ((refine call_e (clone_ok r.coefs (by omega)) ?_); conv => whnf) | (((rw [LC]; refine call_e (repeat_ok P.costs.length hcl) ?_)); conv => whnf) | ((with_reducible refine slc_e ?_); conv => whnf) | ((with_reducible refine callS_a ?_); conv => whnf) | ((with_reducible refine own_e ?_); conv => whnf) | (refine draw_i 13 plGL10e_0 (by decide +kernel) ?_; (conv => whnf); fail_if_success (guard_target =~ False)) | ((with_reducible refine And.intro ?_ ?_) <;> (conv => whnf)) | (with_reducible exact trivial) | ((with_reducible refine branch_d (fun hq => ?_) (fun hq => ?_)) <;> (try (exfalso; omega)) <;> (conv => whnf)) | ((with_reducible refine branch_e (fun hq => ?_) (fun hq => ?_)) <;> (try (exfalso; omega)) <;> (conv => whnf)) | ((with_reducible refine branch_n (fun hq => ?_) (fun hq => ?_)) <;> (try (exfalso; omega)) <;> (conv => whnf)) | ((with_reducible refine branch_i (fun hq => ?_) (fun hq => ?_)) <;> (try (exfalso; omega)) <;> (conv => whnf))))
    · exact ⟨k + 1, by omega, by rw [hsn]; exact (le_mk (by repeat' (first | exact trivial | rfl | apply And.intro)) (by repeat' (first | exact trivial | rfl | apply And.intro)) rfl), by omega⟩
    · have hkk : P.rows.take k = P.rows := List.take_of_length_le (by omega)
      rw [hkk]
      refine loop_i (fun j : Nat => j ≤ pl.chosen.length) (fun j => mkSt [(3, .ptr 3 0), (4, .ptr 4 0), (6, .ptr 6 0), (9, .own 63 3 1 ((repCo P.costs.length (pl.chosen.take j)).map encI)), (65, ints pl.chosen), (66, .int .i64 (pl.chosen.map encI).length), (67, .int .i64 j)] [(2, [ints P.costs, rowsV P.rows]), (3, [.bool pl.found, ints pl.chosen, .int .i64 pl.cost, ndsV pl.nodes]), (4, [.nil, .nil]), (6, [.own 36 3 1 (P.costs.map encI), .own 900 69 3 (P.rows.map encRow)])] false) (fun j => pl.chosen.length - j) 0 (Nat.zero_le _) (by rw [List.take_zero, repCo_nil]; exact (le_mk (by repeat' (first | exact trivial | rfl | apply And.intro)) (by repeat' (first | exact trivial | rfl | apply And.intro)) rfl)) ?_
      intro j hj
      have LQ : ((repCo P.costs.length (pl.chosen.take j)).map encI).length = P.costs.length := by simp [repCo]
      have LQ2 : (repCo P.costs.length (pl.chosen.take j)).length = P.costs.length := by simp [repCo]
      (conv => whnf); (repeat' (first | (refine arith_i ⟨by omega, by omega⟩ ?_; conv => whnf) | (refine arith_u ⟨by omega, by omega⟩ ?_; conv => whnf) | (refine arith_8 ⟨by omega, by omega⟩ ?_; conv => whnf) | (refine need_i (by first | omega | (simp only [List.length_append, List.length_cons, List.length_nil, List.length_map, List.length_replicate, List.length_modify]; omega)) ?_; conv => whnf) | ((with_reducible refine branch_tt ?_); conv => whnf) | ((with_reducible refine branch_ff ?_); conv => whnf) | (with_reducible refine branch_not ?_) | (((refine idx_c (xs := pl.chosen) (by omega) fun c hcc => ?_; have hci := hch2 j (by omega); have hcn := nth_eq hcc; rw [hcn] at hci)); conv => whnf) | (((refine idx_m (xs := repCo P.costs.length (pl.chosen.take j)) (by omega) (by omega) fun y hy => ?_)); conv => whnf) | ((with_reducible refine slc_e ?_); conv => whnf) | ((with_reducible refine callS_a ?_); conv => whnf) | ((with_reducible refine own_e ?_); conv => whnf) | (refine draw_i 13 plGL10e_0 (by decide +kernel) ?_; (conv => whnf); fail_if_success (guard_target =~ False)) | ((with_reducible refine And.intro ?_ ?_) <;> (conv => whnf)) | (with_reducible exact trivial) | ((with_reducible refine branch_d (fun hq => ?_) (fun hq => ?_)) <;> (try (exfalso; omega)) <;> (conv => whnf)) | ((with_reducible refine branch_e (fun hq => ?_) (fun hq => ?_)) <;> (try (exfalso; omega)) <;> (conv => whnf)) | ((with_reducible refine branch_n (fun hq => ?_) (fun hq => ?_)) <;> (try (exfalso; omega)) <;> (conv => whnf)) | ((with_reducible refine branch_i (fun hq => ?_) (fun hq => ?_)) <;> (try (exfalso; omega)) <;> (conv => whnf))))
      · refine ⟨j + 1, by omega, ?_, by omega⟩
        rw [repCo_set hcc hci]
        exact le_mk ⟨rfl, rfl, rfl, by rw [← encI_set]; rfl, rfl, rfl, rfl, trivial⟩ ⟨rfl, rfl, rfl, rfl, trivial⟩ rfl
      · have hjj : pl.chosen.take j = pl.chosen := List.take_of_length_le (by omega)
        rw [hjj]
        have e0 : repE P pl.found pl.chosen = 0 := by rw [repE, if_neg (by simp [*]), if_neg (by simp [*]), if_neg (by omega)]
        exact ret_t (rs := [progV (repP P pl.chosen), .int .i64 0]) ⟨.inr ⟨_, _, rfl, rfl, rc_o, rc_o' (by rw [repP, List.map_append, LH]; rfl), trivial⟩, (rc_p rfl).g, trivial⟩ (by rw [repV, e0]; rfl)
  · exact rep_err (by rw [repE, if_neg (by simp [*]), if_pos (by simp [*])]) (by omega)
  · exact rep_err (by rw [repE, if_neg (by simp [*]), if_pos (by simp [*])]) (by omega)
  · exact rep_err (by rw [repE, if_pos (by assumption)]) (by omega)
end Go.Proofs.Ytjgaacjfoaohnaa
