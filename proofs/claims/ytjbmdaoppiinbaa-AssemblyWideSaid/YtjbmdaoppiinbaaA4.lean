/- Several texts in one: GBr2, GL09k, GL09l, GL10e, GL10f, GL10g, GL10h, GL10i, GL09m, GL09n, GL09o, GL09p, GBr3, GL09q, GL09r, GL10j, GL10k, Pl10w, Pl10x, GL10w, GBrA. -/
import Derived.Test.YtjbmdaoppiinbaaA3
import Derived.Test.YtjbmdaoppiinbaaMC
import Derived.Test.YtjbmdaoppiinbaaA2
import Derived.Deep.Slices
import Derived.Deep.Fields
import Derived.ChangeSame
import Derived.OpenShut
import Derived.WideKeyArr2
/- From a contract of the interpreter to a law's call: any arguments; slices of strings. -/
section
namespace Go.Proofs.Ytjbmdaoppiinbaa
set_option linter.unusedVariables false
set_option linter.unusedSimpArgs false
set_option linter.unnecessarySimpa false
set_option linter.unusedSectionVars false
open Go.RowKit

end Go.Proofs.Ytjbmdaoppiinbaa
end

/- Layer 9: awake; the laws OptimalityMany and OptimalityBounds. -/
section
namespace Go.Proofs.Ytjbmdaoppiinbaa
set_option linter.unusedVariables false
set_option linter.unusedSimpArgs false
set_option linter.unnecessarySimpa false
set_option linter.unusedSectionVars false
set_option maxRecDepth 10000
open Go.RowKit



def nd0 : Nd := ⟨0, 0, 0, 0, 0, 0, 0⟩
end Go.Proofs.Ytjbmdaoppiinbaa
end

/- Layer 9: Has, complete, Subset; valid programs of the tape. -/
section
namespace Go.Proofs.Ytjbmdaoppiinbaa
set_option linter.unusedVariables false
set_option linter.unusedSimpArgs false
set_option linter.unnecessarySimpa false
set_option linter.unusedSectionVars false
set_option maxRecDepth 10000
open Go.RowKit

end Go.Proofs.Ytjbmdaoppiinbaa
end

/- Layer 10: comparing lists; Repeat, of the program and of the reference. -/
section
namespace Go.Proofs.Ytjbmdaoppiinbaa
set_option linter.unusedVariables false
set_option linter.unusedSimpArgs false
set_option linter.unnecessarySimpa false
set_option linter.unusedSectionVars false
set_option maxRecDepth 10000
open Go.RowKit
def plGL10e_0 : Plan := (.take 0 (.take 1 (.take 2 (.take 3 (.take 5 (.take 6 (.take 7 (.take 8 (.alt 4 (.take 9 (.alt 10 (.alt 11 (.take 12 (.alt 13 .done .stop)) .stop) .stop)) .stop)))))))))
set_option maxHeartbeats 2000000 in
theorem aChoice_ok (ch : List Int) (n : Nat) (hl : ch.length ≤ 1000000) (hn : n ≤ 1000000) : Good Try.prog TT false 31 [ints ch, .int .i64 n] (· = .bool (choiceB ch n)) := by
  have L : (ch.map encI).length = ch.length := List.length_map ..
  refine good_of mixed tabOk Try.func31 rfl rfl Try.ntmps31 Try.results31 rfl rfl ?_
  (conv => whnf); (repeat (first | (refine arith_i ⟨by omega, by omega⟩ ?_; conv => whnf) | (refine need_i (by first | omega | (simp only [List.length_append, List.length_cons, List.length_nil]; omega)) ?_; conv => whnf) | ((with_reducible first | refine branch_tt ?_ | refine branch_ff ?_); conv => whnf) | (with_reducible refine branch_not ?_) | ((with_reducible first | refine slc_e ?_ | refine callS_a ?_ | refine bld_a ?_ | refine own_e ?_ | refine mkmap_b ?_); conv => whnf)))
  refine loop_i (fun k : Nat => k ≤ ch.length ∧ ChTo ch n k) (fun k => mkSt [(0, ints ch), (1, .int .i64 n), (7, ints ch), (8, .int .i64 (ch.map encI).length), (9, .int .i64 k)] [] false) (fun k => ch.length - k) 0 ⟨Nat.zero_le _, ChTo.zero⟩ (le_mk ⟨rfl, rfl, rfl, rfl, rfl, trivial⟩ trivial rfl) ?_
  rintro k ⟨hk, hall⟩
  (conv => whnf); (repeat (first | (refine arith_i ⟨by omega, by omega⟩ ?_; conv => whnf) | (refine need_i (by first | omega | (simp only [List.length_append, List.length_cons, List.length_nil]; omega)) ?_; conv => whnf) | ((with_reducible first | refine branch_tt ?_ | refine branch_ff ?_); conv => whnf) | (with_reducible refine branch_not ?_) | ((with_reducible first | refine slc_e ?_ | refine callS_a ?_ | refine bld_a ?_ | refine own_e ?_ | refine mkmap_b ?_); conv => whnf)))
  refine branch_d (fun h => ?_) (fun h => ?_)
  · (conv => whnf); (repeat (first | (refine arith_i ⟨by omega, by omega⟩ ?_; conv => whnf) | (refine need_i (by first | omega | (simp only [List.length_append, List.length_cons, List.length_nil]; omega)) ?_; conv => whnf) | ((with_reducible first | refine branch_tt ?_ | refine branch_ff ?_); conv => whnf) | (with_reducible refine branch_not ?_) | ((with_reducible first | refine slc_e ?_ | refine callS_a ?_ | refine bld_a ?_ | refine own_e ?_ | refine mkmap_b ?_); conv => whnf)))
    refine idx_m (by omega) (by omega) fun y hy => ?_
    rw [Int.toNat_natCast] at hy
    have hn := nth_eq hy
    (conv => whnf); (repeat (first | (refine arith_i ⟨by omega, by omega⟩ ?_; conv => whnf) | (refine need_i (by first | omega | (simp only [List.length_append, List.length_cons, List.length_nil]; omega)) ?_; conv => whnf) | ((with_reducible first | refine branch_tt ?_ | refine branch_ff ?_); conv => whnf) | (with_reducible refine branch_not ?_) | ((with_reducible first | refine slc_e ?_ | refine callS_a ?_ | refine bld_a ?_ | refine own_e ?_ | refine mkmap_b ?_); conv => whnf)))
    refine branch_d (fun h1 => ?_) (fun h1 => ?_)
    · (conv => whnf); (repeat (first | (refine arith_i ⟨by omega, by omega⟩ ?_; conv => whnf) | (refine need_i (by first | omega | (simp only [List.length_append, List.length_cons, List.length_nil]; omega)) ?_; conv => whnf) | ((with_reducible first | refine branch_tt ?_ | refine branch_ff ?_); conv => whnf) | (with_reducible refine branch_not ?_) | ((with_reducible first | refine slc_e ?_ | refine callS_a ?_ | refine bld_a ?_ | refine own_e ?_ | refine mkmap_b ?_); conv => whnf)))
      exact ret_p rfl (bool_eq (ch_fail (k := k) (by omega) (by simp [choiceAt, hn]; omega)).symm)
    · (conv => whnf); (repeat (first | (refine arith_i ⟨by omega, by omega⟩ ?_; conv => whnf) | (refine need_i (by first | omega | (simp only [List.length_append, List.length_cons, List.length_nil]; omega)) ?_; conv => whnf) | ((with_reducible first | refine branch_tt ?_ | refine branch_ff ?_); conv => whnf) | (with_reducible refine branch_not ?_) | ((with_reducible first | refine slc_e ?_ | refine callS_a ?_ | refine bld_a ?_ | refine own_e ?_ | refine mkmap_b ?_); conv => whnf)))
      refine branch_d (fun h2 => ?_) (fun h2 => ?_)
      · (conv => whnf); (repeat (first | (refine arith_i ⟨by omega, by omega⟩ ?_; conv => whnf) | (refine need_i (by first | omega | (simp only [List.length_append, List.length_cons, List.length_nil]; omega)) ?_; conv => whnf) | ((with_reducible first | refine branch_tt ?_ | refine branch_ff ?_); conv => whnf) | (with_reducible refine branch_not ?_) | ((with_reducible first | refine slc_e ?_ | refine callS_a ?_ | refine bld_a ?_ | refine own_e ?_ | refine mkmap_b ?_); conv => whnf)))
        exact ret_p rfl (bool_eq (ch_fail (k := k) (by omega) (by simp [choiceAt, hn]; omega)).symm)
      · (conv => whnf); (repeat (first | (refine arith_i ⟨by omega, by omega⟩ ?_; conv => whnf) | (refine need_i (by first | omega | (simp only [List.length_append, List.length_cons, List.length_nil]; omega)) ?_; conv => whnf) | ((with_reducible first | refine branch_tt ?_ | refine branch_ff ?_); conv => whnf) | (with_reducible refine branch_not ?_) | ((with_reducible first | refine slc_e ?_ | refine callS_a ?_ | refine bld_a ?_ | refine own_e ?_ | refine mkmap_b ?_); conv => whnf)))
        refine branch_d (fun h3 => ?_) (fun h3 => ?_)
        · (conv => whnf); (repeat (first | (refine arith_i ⟨by omega, by omega⟩ ?_; conv => whnf) | (refine need_i (by first | omega | (simp only [List.length_append, List.length_cons, List.length_nil]; omega)) ?_; conv => whnf) | ((with_reducible first | refine branch_tt ?_ | refine branch_ff ?_); conv => whnf) | (with_reducible refine branch_not ?_) | ((with_reducible first | refine slc_e ?_ | refine callS_a ?_ | refine bld_a ?_ | refine own_e ?_ | refine mkmap_b ?_); conv => whnf)))
          refine idx_m (by omega) (by omega) fun z hz => ?_
          have e1 : ((k : Int) - 1).toNat = k - 1 := by omega
          rw [e1] at hz
          have hz' := nth_eq hz
          (conv => whnf); (repeat (first | (refine arith_i ⟨by omega, by omega⟩ ?_; conv => whnf) | (refine need_i (by first | omega | (simp only [List.length_append, List.length_cons, List.length_nil]; omega)) ?_; conv => whnf) | ((with_reducible first | refine branch_tt ?_ | refine branch_ff ?_); conv => whnf) | (with_reducible refine branch_not ?_) | ((with_reducible first | refine slc_e ?_ | refine callS_a ?_ | refine bld_a ?_ | refine own_e ?_ | refine mkmap_b ?_); conv => whnf)))
          refine branch_d (fun h4 => ?_) (fun h4 => ?_)
          · (conv => whnf); (repeat (first | (refine arith_i ⟨by omega, by omega⟩ ?_; conv => whnf) | (refine need_i (by first | omega | (simp only [List.length_append, List.length_cons, List.length_nil]; omega)) ?_; conv => whnf) | ((with_reducible first | refine branch_tt ?_ | refine branch_ff ?_); conv => whnf) | (with_reducible refine branch_not ?_) | ((with_reducible first | refine slc_e ?_ | refine callS_a ?_ | refine bld_a ?_ | refine own_e ?_ | refine mkmap_b ?_); conv => whnf)))
            exact ret_p rfl (bool_eq (ch_fail (k := k) (by omega) (by simp [choiceAt, hn, hz']; omega)).symm)
          · (conv => whnf); (repeat (first | (refine arith_i ⟨by omega, by omega⟩ ?_; conv => whnf) | (refine need_i (by first | omega | (simp only [List.length_append, List.length_cons, List.length_nil]; omega)) ?_; conv => whnf) | ((with_reducible first | refine branch_tt ?_ | refine branch_ff ?_); conv => whnf) | (with_reducible refine branch_not ?_) | ((with_reducible first | refine slc_e ?_ | refine callS_a ?_ | refine bld_a ?_ | refine own_e ?_ | refine mkmap_b ?_); conv => whnf)))
            exact ⟨k + 1, ⟨by omega, hall.step (by simp [choiceAt, hn, hz']; omega)⟩, le_mk ⟨rfl, rfl, rfl, rfl, rfl, trivial⟩ trivial rfl, by omega⟩
        · (conv => whnf); (repeat (first | (refine arith_i ⟨by omega, by omega⟩ ?_; conv => whnf) | (refine need_i (by first | omega | (simp only [List.length_append, List.length_cons, List.length_nil]; omega)) ?_; conv => whnf) | ((with_reducible first | refine branch_tt ?_ | refine branch_ff ?_); conv => whnf) | (with_reducible refine branch_not ?_) | ((with_reducible first | refine slc_e ?_ | refine callS_a ?_ | refine bld_a ?_ | refine own_e ?_ | refine mkmap_b ?_); conv => whnf)))
          exact ⟨k + 1, ⟨by omega, hall.step (by have : k = 0 := by omega
                                                 simp [choiceAt, hn, this] at h1 h2 ⊢
                                                 subst this
                                                 simp [hn]
                                                 omega)⟩, le_mk ⟨rfl, rfl, rfl, rfl, rfl, trivial⟩ trivial rfl, by omega⟩
  · (conv => whnf); (repeat (first | (refine arith_i ⟨by omega, by omega⟩ ?_; conv => whnf) | (refine need_i (by first | omega | (simp only [List.length_append, List.length_cons, List.length_nil]; omega)) ?_; conv => whnf) | ((with_reducible first | refine branch_tt ?_ | refine branch_ff ?_); conv => whnf) | (with_reducible refine branch_not ?_) | ((with_reducible first | refine slc_e ?_ | refine callS_a ?_ | refine bld_a ?_ | refine own_e ?_ | refine mkmap_b ?_); conv => whnf)))
    exact ret_p rfl (bool_eq (hall.full (by omega)).symm)
/-- The row that excludes a choice. -/
def repCo (n : Nat) (ch : List Int) : List Int := (List.range n).map fun i : Nat => if hasB ch (i : Int) then 1 else -1
def repRow (n : Nat) (ch : List Int) : Row := ⟨repCo n ch, -12, ch.length - 1⟩
/-- The program without a choice. -/
def repP (P : Prog) (ch : List Int) : Prog := ⟨P.costs, P.rows ++ [repRow P.costs.length ch]⟩
def repE (P : Prog) (f : Bool) (ch : List Int) : Int := if validB P = false then 1 else if f = false ∨ choiceB ch P.costs.length = false then 10 else if 60 ≤ P.rows.length then 3 else 0
def repV (P : Prog) (f : Bool) (ch : List Int) : AV := .tup [if repE P f ch = 0 then progV (repP P ch) else progV ⟨[], []⟩, .int .i64 (repE P f ch)]
theorem repCo_nil {n : Nat} : repCo n [] = List.replicate n (-1) := by
  refine List.ext_getElem? fun i => ?_
  rw [repCo, List.getElem?_map, List.getElem?_replicate]
  split
  · next h => rw [List.getElem?_range h]; simp [hasB]
  · next h => rw [List.getElem?_eq_none (by simp; omega)]; rfl
theorem repCo_set {n j : Nat} {ch : List Int} {c : Int} (hc : ch[j]? = some c) (hn : 0 ≤ c ∧ c < n) : repCo n (ch.take (j + 1)) = (repCo n (ch.take j)).set c.toNat 1 := by
  have htk : ch.take (j + 1) = ch.take j ++ [c] := by rw [List.take_add_one, hc]; rfl
  refine List.ext_getElem? fun i => ?_
  rw [htk, List.getElem?_set, repCo, repCo, List.getElem?_map, List.getElem?_map]
  rcases Nat.lt_or_ge i n with h | h
  · rw [List.getElem?_range h]
    simp only [Option.toList_some, Option.map_some, List.length_map, List.length_range]
    by_cases e : c.toNat = i
    · have hm : hasB (ch.take j ++ [c]) (i : Int) = true := hasB_iff.2 (List.mem_append.2 (.inr (by simp; omega)))
      rw [if_pos e, if_pos hm, if_pos (show c.toNat < n by omega)]
    · rw [if_neg e]
      have hm : hasB (ch.take j ++ [c]) (i : Int) = hasB (ch.take j) (i : Int) := by
        rw [Bool.eq_iff_iff, hasB_iff, hasB_iff, List.mem_append]
        exact ⟨fun h => h.elim id fun h => by simp at h; omega, .inl⟩
      rw [hm]
  · rw [List.getElem?_eq_none (by simp; omega)]
    split
    · next e => simp; omega
    · rfl
theorem rep_err {P : Prog} {f : Bool} {ch : List Int} {e : Int} (h : repE P f ch = e) (he : e ≠ 0) : aret (.tup [.agg [.nil, .nil], .int .i64 e]) (· = repV P f ch) :=
  ret_t (rs := [progV ⟨[], []⟩, .int .i64 e]) ⟨.inr ⟨_, _, rfl, rfl, rc_n, rc_n, trivial⟩, (rc_p rfl).g, trivial⟩ (by rw [repV, h, if_neg he])
set_option maxHeartbeats 4000000 in
theorem repeatP_ok (P : Prog) (pl : Pln) (hP : Fits P) (hc : pl.chosen.length ≤ 1000000) : Good Try.prog TT false 15 [progV P, planV pl] (· = repV P pl.found pl.chosen) := by
  have LC : (P.costs.map encI).length = P.costs.length := List.length_map ..
  have LR : (P.rows.map encRow).length = P.rows.length := List.length_map ..
  have LH : (pl.chosen.map encI).length = pl.chosen.length := List.length_map ..
  refine good_of mixed tabOk Try.func15 rfl rfl Try.ntmps15 Try.results15 rfl rfl ?_
  (conv => whnf); (repeat' (first | (refine arith_i ⟨by omega, by omega⟩ ?_; conv => whnf) | (refine arith_u ⟨by omega, by omega⟩ ?_; conv => whnf) | (refine arith_8 ⟨by omega, by omega⟩ ?_; conv => whnf) | (refine need_i (by first | omega | (simp only [List.length_cons, List.length_nil]; omega) | (simp only [List.length_append, List.length_cons, List.length_nil, List.length_map, List.length_replicate, List.length_modify]; omega)) ?_; conv => whnf) | ((with_reducible first | refine branch_tt ?_ | refine branch_ff ?_); conv => whnf) | (with_reducible refine branch_not ?_) | ((refine call_e (valid_ok P hP.1 hP.2.1 hP.2.2) ?_); conv => whnf) | (((rw [LC]; refine call_e (aChoice_ok pl.chosen P.costs.length hc hP.1) ?_)); conv => whnf) | (((refine call_e (clone_ok P.costs hP.1) ?_)); conv => whnf) | ((with_reducible first | refine slc_e ?_ | refine callS_a ?_ | refine bld_a ?_ | refine own_e ?_ | refine mkmap_b ?_); conv => whnf) | (refine draw_i 13 plGL10e_0 (by decide +kernel) ?_; (conv => whnf); fail_if_success (guard_target =~ False)) | ((with_reducible refine And.intro ?_ ?_) <;> (conv => whnf)) | (with_reducible exact trivial) | ((with_reducible first | refine branch_d (fun hq => ?_) (fun hq => ?_) | refine branch_e (fun hq => ?_) (fun hq => ?_) | refine branch_n (fun hq => ?_) (fun hq => ?_) | refine branch_i (fun hq => ?_) (fun hq => ?_)) <;> (try (exfalso; omega)) <;> (conv => whnf))))
  · exact rep_err (by rw [repE, if_neg (by simp [*]), if_neg (by simp [*]), if_pos (by omega)]) (by omega)
  · have hv : validB P = true := by assumption
    have hch : choiceB pl.chosen P.costs.length = true := by assumption
    have hcl := (validB_parts hv).1
    have hch2 := fun j h => choice_in (i := j) hch h
    refine loop_i (fun k : Nat => k ≤ P.rows.length) (fun k => mkSt [(2, .ptr 2 0), (3, .ptr 3 0), (4, .ptr 4 0), (6, .ptr 6 0), (39, rowsV P.rows), (40, .int .i64 (P.rows.map encRow).length), (41, .int .i64 k)] [(2, [ints P.costs, rowsV P.rows]), (3, [.bool pl.found, ints pl.chosen, .int .i64 pl.cost, ndsV pl.nodes]), (4, [.nil, .nil]), (6, [.own 36 3 1 (P.costs.map encI), .own 900 28 3 ((P.rows.take k).map encRow)])] false) (fun k => P.rows.length - k) 0 (Nat.zero_le _) (Le.trans (le_adoptBox 6 1 900 28 3 rfl rfl) (le_mk (by repeat' (first | exact trivial | rfl | apply And.intro)) (by repeat' (first | exact trivial | rfl | apply And.intro)) rfl)) ?_
    intro k hk
    have LT : ((P.rows.take k).map encRow).length = k := by simp; omega
    have LT2 : (P.rows.take k).length = k := by simp; omega
    (conv => whnf); (repeat' (first | (refine arith_i ⟨by omega, by omega⟩ ?_; conv => whnf) | (refine arith_u ⟨by omega, by omega⟩ ?_; conv => whnf) | (refine arith_8 ⟨by omega, by omega⟩ ?_; conv => whnf) | (refine need_i (by first | omega | (simp only [List.length_cons, List.length_nil]; omega) | (simp only [List.length_append, List.length_cons, List.length_nil, List.length_map, List.length_replicate, List.length_modify]; omega)) ?_; conv => whnf) | ((with_reducible first | refine branch_tt ?_ | refine branch_ff ?_); conv => whnf) | (with_reducible refine branch_not ?_) | (((refine idx_c (xs := P.rows) (by omega) fun r hrr => ?_; have hvr := valid_rows hv (List.mem_of_getElem? hrr); have hsn : (P.rows.take (k + 1)).map encRow = (P.rows.take k).map encRow ++ [encRow r] := (by rw [List.take_add_one, hrr, List.map_append]; rfl))); conv => whnf) | ((refine call_e (clone_ok r.coefs (by omega)) ?_); conv => whnf) | (((rw [LC]; refine call_e (repeat_ok P.costs.length hcl) ?_)); conv => whnf) | ((with_reducible first | refine slc_e ?_ | refine callS_a ?_ | refine bld_a ?_ | refine own_e ?_ | refine mkmap_b ?_); conv => whnf) | (refine draw_i 13 plGL10e_0 (by decide +kernel) ?_; (conv => whnf); fail_if_success (guard_target =~ False)) | ((with_reducible refine And.intro ?_ ?_) <;> (conv => whnf)) | (with_reducible exact trivial) | ((with_reducible first | refine branch_d (fun hq => ?_) (fun hq => ?_) | refine branch_e (fun hq => ?_) (fun hq => ?_) | refine branch_n (fun hq => ?_) (fun hq => ?_) | refine branch_i (fun hq => ?_) (fun hq => ?_)) <;> (try (exfalso; omega)) <;> (conv => whnf))))
    · exact ⟨k + 1, by omega, by rw [hsn]; exact (le_mk (by repeat' (first | exact trivial | rfl | apply And.intro)) (by repeat' (first | exact trivial | rfl | apply And.intro)) rfl), by omega⟩
    · have hkk : P.rows.take k = P.rows := List.take_of_length_le (by omega)
      rw [hkk]
      refine loop_i (fun j : Nat => j ≤ pl.chosen.length) (fun j => mkSt [(3, .ptr 3 0), (4, .ptr 4 0), (6, .ptr 6 0), (9, .own 63 3 1 ((repCo P.costs.length (pl.chosen.take j)).map encI)), (65, ints pl.chosen), (66, .int .i64 (pl.chosen.map encI).length), (67, .int .i64 j)] [(2, [ints P.costs, rowsV P.rows]), (3, [.bool pl.found, ints pl.chosen, .int .i64 pl.cost, ndsV pl.nodes]), (4, [.nil, .nil]), (6, [.own 36 3 1 (P.costs.map encI), .own 900 28 3 (P.rows.map encRow)])] false) (fun j => pl.chosen.length - j) 0 (Nat.zero_le _) (by rw [List.take_zero, repCo_nil]; exact (le_mk (by repeat' (first | exact trivial | rfl | apply And.intro)) (by repeat' (first | exact trivial | rfl | apply And.intro)) rfl)) ?_
      intro j hj
      have LQ : ((repCo P.costs.length (pl.chosen.take j)).map encI).length = P.costs.length := by simp [repCo]
      have LQ2 : (repCo P.costs.length (pl.chosen.take j)).length = P.costs.length := by simp [repCo]
      (conv => whnf); (repeat' (first | (refine arith_i ⟨by omega, by omega⟩ ?_; conv => whnf) | (refine arith_u ⟨by omega, by omega⟩ ?_; conv => whnf) | (refine arith_8 ⟨by omega, by omega⟩ ?_; conv => whnf) | (refine need_i (by first | omega | (simp only [List.length_cons, List.length_nil]; omega) | (simp only [List.length_append, List.length_cons, List.length_nil, List.length_map, List.length_replicate, List.length_modify]; omega)) ?_; conv => whnf) | ((with_reducible first | refine branch_tt ?_ | refine branch_ff ?_); conv => whnf) | (with_reducible refine branch_not ?_) | (((refine idx_c (xs := pl.chosen) (by omega) fun c hcc => ?_; have hci := hch2 j (by omega); have hcn := nth_eq hcc; rw [hcn] at hci)); conv => whnf) | (((refine idx_m (xs := repCo P.costs.length (pl.chosen.take j)) (by omega) (by omega) fun y hy => ?_)); conv => whnf) | ((with_reducible first | refine slc_e ?_ | refine callS_a ?_ | refine bld_a ?_ | refine own_e ?_ | refine mkmap_b ?_); conv => whnf) | (refine draw_i 13 plGL10e_0 (by decide +kernel) ?_; (conv => whnf); fail_if_success (guard_target =~ False)) | ((with_reducible refine And.intro ?_ ?_) <;> (conv => whnf)) | (with_reducible exact trivial) | ((with_reducible first | refine branch_d (fun hq => ?_) (fun hq => ?_) | refine branch_e (fun hq => ?_) (fun hq => ?_) | refine branch_n (fun hq => ?_) (fun hq => ?_) | refine branch_i (fun hq => ?_) (fun hq => ?_)) <;> (try (exfalso; omega)) <;> (conv => whnf))))
      · refine ⟨j + 1, by omega, ?_, by omega⟩
        rw [repCo_set hcc hci]
        exact le_mk ⟨rfl, rfl, rfl, by rw [← encI_set]; rfl, rfl, rfl, rfl, trivial⟩ ⟨rfl, rfl, rfl, rfl, trivial⟩ rfl
      · have hjj : pl.chosen.take j = pl.chosen := List.take_of_length_le (by omega)
        rw [hjj]
        have e0 : repE P pl.found pl.chosen = 0 := by rw [repE, if_neg (by simp [*]), if_neg (by simp [*]), if_neg (by omega)]
        exact ret_t (rs := [progV (repP P pl.chosen), .int .i64 0]) ⟨.inr ⟨_, _, rfl, rfl, rc_o, rc_o' (by rw [repP, List.map_append, LH]; rfl), trivial⟩, (rc_p rfl).g, trivial⟩ (by rw [repV, e0]; rfl)
  · exact rep_err (by rw [repE, if_neg (by simp [*]), if_pos (by simp [*])]) (by omega)
  · exact rep_err (by rw [repE, if_neg (by simp [*]), if_pos (by simp [*])]) (by omega)
  · exact rep_err (by rw [repE, if_pos (by assumption)]) (by omega)
end Go.Proofs.Ytjbmdaoppiinbaa
end

/- Layer 10: awake. -/
section
namespace Go.Proofs.Ytjbmdaoppiinbaa
set_option linter.unusedVariables false
set_option linter.unusedSimpArgs false
set_option linter.unnecessarySimpa false
set_option linter.unusedSectionVars false
set_option maxRecDepth 10000
open Go.RowKit
def aP1 : Prog := ⟨[3, 5, 3], [⟨[1, 1, 1], 1, 3⟩]⟩
def aP2 : Prog := repP aP1 [0]
def aL1 : Pln := ⟨true, [0], 3, certF aP1 true 3⟩
def aL2 : Pln := ⟨true, [2], 3, certF aP2 true 3⟩
theorem fits1 : Fits aP1 := ⟨by decide, by decide, by decide⟩
theorem fits2 : Fits aP2 := ⟨by decide, by decide, by decide⟩
theorem best1 : bestF aP1 = (true, 3, [0]) := by decide +kernel
theorem best2 : bestF aP2 = (true, 3, [2]) := by decide +kernel
theorem valid1 : validB aP1 = true := by decide +kernel
theorem valid2 : validB aP2 = true := by decide +kernel
theorem solve1 : solveV aP1 = .tup [planV aL1, .int .i64 0] := by rw [solveV, if_pos valid1, best1]; rfl
theorem solve2 : solveV aP2 = .tup [planV aL2, .int .i64 0] := by rw [solveV, if_pos valid2, best2]; rfl
theorem rep1 : repV aP1 true [0] = .tup [progV aP2, .int .i64 0] := by
  have : repE aP1 true [0] = 0 := by decide +kernel
  rw [repV, this]; rfl
theorem check1 : checkF aP1 aL1 = 0 := by decide +kernel
theorem cert1 : (certF aP1 true 3).length ≤ 1000000 := Nat.le_trans tree_len (by decide +kernel)
set_option maxHeartbeats 2000000 in
theorem awake10_ok : Good Try.prog TT false 6 [] (· = .bool true) := by
  have hS1 := (solve_ok aP1 fits1).mono fun r h => h.trans solve1
  have hS2 := (solve_ok aP2 fits2).mono fun r h => h.trans solve2
  have hR := (repeatP_ok aP1 aL1 fits1 (by decide)).mono fun r h => h.trans rep1
  have hC := (check_ok aP1 aL1 fits1 cert1 (by decide)).mono fun r h => h.trans (int_eq check1)
  have hI1 := ints_ok [0] [0] (by decide) (by decide)
  have hI2 := ints_ok [2] [2] (by decide) (by decide)
  refine good_of mixed tabOk Try.func6 rfl rfl Try.ntmps6 Try.results6 rfl rfl ?_
  (conv => whnf); (repeat' (first | (refine arith_i ⟨by omega, by omega⟩ ?_; conv => whnf) | (refine arith_u ⟨by omega, by omega⟩ ?_; conv => whnf) | (refine arith_8 ⟨by omega, by omega⟩ ?_; conv => whnf) | (refine need_i (by first | omega | (simp only [List.length_cons, List.length_nil]; omega) | (simp only [List.length_append, List.length_cons, List.length_nil, List.length_map, List.length_replicate, List.length_modify]; omega)) ?_; conv => whnf) | ((with_reducible first | refine branch_tt ?_ | refine branch_ff ?_); conv => whnf) | (with_reducible refine branch_not ?_) | ((refine call_e hS1 ?_); conv => whnf) | ((refine call_e hR ?_); conv => whnf) | ((refine call_e hS2 ?_); conv => whnf) | ((refine call_e hI1 ?_); conv => whnf) | ((refine call_e hI2 ?_); conv => whnf) | ((refine call_e hC ?_); conv => whnf) | ((with_reducible first | refine slc_e ?_ | refine callS_a ?_ | refine bld_a ?_ | refine own_e ?_ | refine mkmap_b ?_); conv => whnf) | ((with_reducible first | refine branch_d (fun hq => ?_) (fun hq => ?_) | refine branch_e (fun hq => ?_) (fun hq => ?_) | refine branch_n (fun hq => ?_) (fun hq => ?_) | refine branch_i (fun hq => ?_) (fun hq => ?_)) <;> (try (exfalso; omega)) <;> (conv => whnf))))
  all_goals first
    | exact ret_p rfl rfl
    | (exfalso; exact absurd rfl hq)
    | (exfalso; revert hq; decide)
end Go.Proofs.Ytjbmdaoppiinbaa
end

/- Layer 10: the reference's All; the law AssemblyAll. -/
section
namespace Go.Proofs.Ytjbmdaoppiinbaa
set_option linter.unusedVariables false
set_option linter.unusedSimpArgs false
set_option linter.unnecessarySimpa false
set_option linter.unusedSectionVars false
set_option maxRecDepth 10000
open Go.RowKit
end Go.Proofs.Ytjbmdaoppiinbaa
end

/- Layer 10: the laws AssemblyRepeats and AssemblyFull. -/
section
namespace Go.Proofs.Ytjbmdaoppiinbaa
set_option linter.unusedVariables false
set_option linter.unusedSimpArgs false
set_option linter.unnecessarySimpa false
set_option linter.unusedSectionVars false
set_option maxRecDepth 10000
open Go.RowKit
/-! Full -/
end Go.Proofs.Ytjbmdaoppiinbaa
end

/- Layer 10: the law AssemblyLeast. -/
section
namespace Go.Proofs.Ytjbmdaoppiinbaa
set_option linter.unusedVariables false
set_option linter.unusedSimpArgs false
set_option linter.unnecessarySimpa false
set_option linter.unusedSectionVars false
set_option maxRecDepth 10000
open Go.RowKit
/-- No choice that meets the program is better. -/
theorem least_ok {P : Prog} (hv : validB P = true) {c : List Int} (hc : Asc 0 P.costs.length c) (hm : meetsB P c = true) : (bestF P).1 = true ∧ (bestF P).2.1 ≤ costF P c ∧ ((bestF P).2.1 = costF P c → befB c (bestF P).2.2 = false) := by
  have hb := best_is P
  have hin : c ∈ allF P := all_mem.2 ⟨hc, by rw [← meets_asc hv hc]; exact hm⟩
  have hcost := (all_meets hv hin).2.1
  have h1 : (bestF P).1 = true := by
    cases h : (bestF P).1 with
    | true => rfl
    | false => rw [(hb.none h).1] at hin; simp at hin
  refine ⟨h1, by rw [hcost]; exact hb.least h1 c hin, fun he => ?_⟩
  obtain ⟨l1, l2, h2, h3⟩ := hb.first h1
  rw [h2] at hin
  have hs := all_sorted (P := P)
  rw [h2] at hs
  rcases List.mem_append.1 hin with h | h
  · have := h3 c h; omega
  · rcases List.mem_cons.1 h with rfl | h
    · cases hh : befB (bestF P).2.2 (bestF P).2.2 with
      | false => rfl
      | true => have := bef_asymm hh; rw [hh] at this; cases this
    · exact bef_asymm ((List.pairwise_cons.1 (List.pairwise_append.1 hs).2.1).1 c h)
theorem best_meets {P : Prog} (hv : validB P = true) (h : (bestF P).1 = true) : meetsB P (bestF P).2.2 = true ∧ costF P (bestF P).2.2 = (bestF P).2.1 ∧ Asc 0 P.costs.length (bestF P).2.2 := by
  have hb := best_is P
  have h1 := hb.mem h
  have h2 := all_meets hv h1.1
  exact ⟨h2.1, by rw [h2.2.1, h1.2], h2.2.2⟩
theorem best_len {P : Prog} (hv : validB P = true) : (bestF P).2.2.length ≤ 12 := by
  cases h : (bestF P).1 with
  | true => have := asc_len (best_meets hv h).2.2; have := (validB_parts hv).1; omega
  | false => rw [((best_is P).none h).2]; simp
end Go.Proofs.Ytjbmdaoppiinbaa
end

/- Layer 9: the bound is sound; the law OptimalityBoundSound. -/
section
namespace Go.Proofs.Ytjbmdaoppiinbaa
set_option linter.unusedVariables false
set_option linter.unusedSimpArgs false
set_option linter.unnecessarySimpa false
set_option linter.unusedSectionVars false
set_option maxRecDepth 10000
open Go.RowKit

theorem ceil_le {a b c : Int} (hb : 1 ≤ b) (h : a ≤ b * c) : ceilF a b ≤ c := by
  unfold ceilF
  have e := Int.mul_tdiv_add_tmod a b
  split
  · next hp =>
    rcases Int.lt_or_le (a.tdiv b) c with h1 | h1
    · omega
    · have := Int.mul_le_mul_of_nonneg_left h1 (show (0 : Int) ≤ b by omega)
      omega
  · next hp =>
    rcases Int.lt_or_le c (a.tdiv b) with h1 | h1
    · exfalso
      have h2 := Int.mul_le_mul_of_nonneg_left (show c + 1 ≤ a.tdiv b by omega) (show (0 : Int) ≤ b by omega)
      have h3 : b * (c + 1) = b * c + b := by rw [Int.mul_add, Int.mul_one]
      have h4 : -b < a.tmod b := by
        have := Int.neg_emod_two b
        have h5 := Int.lt_tmod_of_pos a (show 0 < b by omega)
        exact h5
      omega
    · exact h1
theorem contr_sum {P : Prog} {st : List Int} {n : Nd} {b : Nat} (hc : Compl st b) (ht : AllTo triB st st.length) : ∀ k, k ≤ st.length → sumN (fun i => contr (nth st i) (nodeV P n i)) k ≤ n.den * bitSum P.costs b k - n.num * bitSum (rowOf P n).coefs b k
  | 0, _ => by simp [sumN, bitSum]
  | k + 1, hk => by
    have ih := contr_sum (P := P) (n := n) hc ht k (by omega)
    have hck := hc k (by omega)
    have htk := triB_iff.1 (ht k (by omega))
    simp only [sumN, bitSum, Int.mul_add]
    have hv : nodeV P n k = n.den * nth P.costs k - n.num * nth (rowOf P n).coefs k := rfl
    have key : contr (nth st k) (nodeV P n k) ≤ n.den * (if b.testBit k = true then nth P.costs k else 0) - n.num * (if b.testBit k = true then nth (rowOf P n).coefs k else 0) := by
      unfold contr
      by_cases h1 : nth st k = 1
      · rw [if_pos h1, if_pos (hck.1 h1), if_pos (hck.1 h1)]; omega
      · by_cases h2 : nth st k = -1
        · rw [if_neg h1, if_pos h2]
          by_cases hb : b.testBit k = true
          · rw [if_pos hb, if_pos hb]; omega
          · rw [if_neg hb, if_neg hb]; simp only [Int.mul_zero]; omega
        · have h0 : nth st k = 0 := by omega
          have hb := hck.2 h0
          rw [if_neg h1, if_neg h2, if_neg (by simp [hb]), if_neg (by simp [hb])]
          simp
    omega
theorem bitSum_zero {b n : Nat} : ∀ k, bitSum (List.replicate n 0) b k = 0
  | 0 => rfl
  | k + 1 => by
    have : nth (List.replicate n (0 : Int)) k = 0 := by
      simp only [nth, List.getD_eq_getElem?_getD, List.getElem?_replicate]
      split <;> rfl
    rw [bitSum, bitSum_zero k, this]; simp
/-- Every completion that meets the program costs at least the bound. -/
theorem bound_sound {P : Prog} {st : List Int} {n : Nd} {b : Nat} (hv : validB P = true) (hb : bndB P.rows.length n = true) (hl : st.length = P.costs.length) (ht : AllTo triB st st.length) (hc : Compl st b) (hm : meetsB P (subTo b P.costs.length) = true) : boundF P st n ≤ costF P (subTo b P.costs.length) := by
  have hcost : costF P (subTo b P.costs.length) = bitSum P.costs b P.costs.length := by
    have : costOk P (subTo b P.costs.length) = true := by simp [costOk, hv, sub_choice]
    rw [costF, if_pos this, sumOf_sub]
  obtain ⟨hn, hd⟩ := node_in hb
  rw [hcost, boundF]
  refine ceil_le hd.1 ?_
  have h1 := contr_sum (P := P) (n := n) hc ht st.length (Nat.le_refl _)
  rw [hl] at h1
  unfold totF
  have h2 : startF P n ≤ n.num * bitSum (rowOf P n).coefs b P.costs.length := by
    unfold startF
    by_cases hr : n.row < 0
    · have e : rowOf P n = ⟨List.replicate P.costs.length 0, 0, 0⟩ := by rw [rowOf, if_pos hr]
      rw [e]
      simp only [bitSum_zero]
      split <;> omega
    · have hrow : n.row.toNat < P.rows.length := by
        rw [bnd_row] at hb
        simp [rowOk9] at hb
        omega
      have hmem : rowOf P n ∈ P.rows := by rw [rowOf, if_neg hr]; exact rowAt_mem hrow
      have hmeet : meetB (subTo b P.costs.length) (rowOf P n) = true := by
        simp only [meetsB, Bool.and_eq_true] at hm
        exact List.all_eq_true.1 hm.2 _ hmem
      simp only [meetB, Bool.and_eq_true, decide_eq_true_eq, sumOf_sub] at hmeet
      split
      · next hneg =>
        have := Int.mul_le_mul_of_nonneg_left hmeet.2 (show 0 ≤ -n.num by omega)
        rw [Int.neg_mul, Int.neg_mul] at this
        omega
      · next hneg => exact Int.mul_le_mul_of_nonneg_left hmeet.1 (by omega)
  omega
theorem tri_all {st : List Int} {c : Nat} (h : stOB st c = true) : AllTo triB st st.length := by
  simp only [stOB, Bool.and_eq_true] at h
  exact AllTo.of_all (p := triB) h.2
end Go.Proofs.Ytjbmdaoppiinbaa
end

/- Layer 9: the generator Tree. -/
section
namespace Go.Proofs.Ytjbmdaoppiinbaa
set_option linter.unusedVariables false
set_option linter.unusedSimpArgs false
set_option linter.unnecessarySimpa false
set_option linter.unusedSectionVars false
set_option maxRecDepth 10000
open Go.RowKit

/-- How many options are undecided. -/
def und : List Int → Nat
  | [] => 0
  | x :: l => (if x = -1 then 1 else 0) + und l
theorem und_set {x : Int} (hx : x ≠ -1) : ∀ {s : List Int} {v : Nat}, s[v]? = some (-1) → und (s.set v x) + 1 = und s
  | [], v, h => by simp at h
  | y :: s, 0, h => by
    simp at h
    subst h
    simp [und, hx]; omega
  | y :: s, v + 1, h => by
    have := und_set hx (s := s) (v := v) (by simpa using h)
    simp only [List.set_cons_succ, und]
    omega
def wt (s : List Int) : Nat := 2 ^ (und s + 1) - 1
def wsum : List (List Int) → Nat
  | [] => 0
  | s :: l => wt s + wsum l
theorem wsum_append (a b : List (List Int)) : wsum (a ++ b) = wsum a + wsum b := by
  induction a with
  | nil => simp [wsum]
  | cons x a ih => simp only [List.cons_append, wsum, ih]; omega
theorem wt_pos (s : List Int) : 1 ≤ wt s := by
  have := Nat.one_le_two_pow (n := und s)
  unfold wt
  rw [Nat.pow_succ]
  omega
theorem len_wsum (l : List (List Int)) : l.length ≤ wsum l := by
  induction l with
  | nil => simp [wsum]
  | cons s l ih => have := wt_pos s; simp only [List.length_cons, wsum]; omega
theorem wt_set {s : List Int} {v : Nat} {x : Int} (hx : x ≠ -1) (h : s[v]? = some (-1)) : 2 * wt (s.set v x) + 1 = wt s := by
  have h1 := und_set hx h
  have h2 := Nat.one_le_two_pow (n := und (s.set v x))
  unfold wt
  rw [← h1, Nat.pow_succ, Nat.pow_succ]
  omega
/-- How many nodes are branches. -/
def brs : List Nd → Nat
  | [] => 0
  | n :: l => (if n.kind = 1 then 1 else 0) + brs l
theorem brs_snoc (l : List Nd) (n : Nd) : brs (l ++ [n]) = brs l + if n.kind = 1 then 1 else 0 := by
  induction l with
  | nil => simp [brs]
  | cons x l ih => simp only [List.cons_append, brs, ih]; omega
/-- A node of a tree as the tape makes it; z: where its children lie, if it is a branch. -/
def TNode (P : Prog) (full : Bool) (S : List (List Int)) (z j : Nat) (n : Nd) (s : List Int) : Prop :=
  (n.kind = 1 ∧ n.zero = z ∧ n.one = z + 1 ∧ j < z ∧ 0 ≤ n.var ∧ n.var < P.costs.length ∧ nth s n.var.toNat = -1 ∧ S[z]? = some (s.set n.var.toNat 0) ∧ S[z + 1]? = some (s.set n.var.toNat 1)) ∨
  (full = true ∧ 0 ≤ deadF P s ∧ n = ⟨2, 0, 0, 0, deadF P s, 0, 0⟩) ∨ (full = true ∧ deadF P s < 0 ∧ (∀ x ∈ s, x ≠ -1) ∧ n = ⟨3, 0, 0, 0, -1, 0, 1⟩) ∨ (full = false ∧ LeafG P s n)
structure TreeInv (P : Prog) (full : Bool) (i : Nat) (S : List (List Int)) (l : List Nd) : Prop where
  li : l.length = i
  iS : i ≤ S.length
  Sl : S.length = 1 + 2 * brs l
  root : S[0]? = some (List.replicate P.costs.length (-1))
  tri : ∀ s ∈ S, stOB s P.costs.length = true
  node : ∀ (j : Nat) n s, l[j]? = some n → S[j]? = some s → TNode P full S (1 + 2 * brs (l.take j)) j n s
  size : i + wsum (S.drop i) ≤ 2 ^ (P.costs.length + 1) - 1
  pre : ∀ j, j < i → j < 1 + 2 * brs (l.take j)
section
variable {P : Prog} {full : Bool} {i : Nat} {S : List (List Int)} {l : List Nd} {s : List Int} {n : Nd}
theorem TreeInv.leaf (h : TreeInv P full i S l) (hs : S[i]? = some s) (hk : n.kind ≠ 1) (hn : (full = true ∧ 0 ≤ deadF P s ∧ n = ⟨2, 0, 0, 0, deadF P s, 0, 0⟩) ∨ (full = true ∧ deadF P s < 0 ∧ (∀ x ∈ s, x ≠ -1) ∧ n = ⟨3, 0, 0, 0, -1, 0, 1⟩) ∨ (full = false ∧ LeafG P s n)) :
    TreeInv P full (i + 1) S (l ++ [n]) ∧ wsum (S.drop (i + 1)) < wsum (S.drop i) := by
  have hlt := (List.getElem?_eq_some_iff.1 hs).1
  have hw : wsum (S.drop i) = wt s + wsum (S.drop (i + 1)) := by rw [drop_at hs, wsum]
  have hp := wt_pos s
  have hli := h.li
  refine ⟨⟨by simp [hli], hlt, by rw [brs_snoc, if_neg hk]; exact h.Sl, h.root, h.tri, fun j n' s' h1 h2 => ?_, by have := h.size; omega, fun j hj => by
      rcases Nat.lt_or_ge j i with hji | hji
      · rw [List.take_append_of_le_length (by omega)]; exact h.pre j hji
      · rw [List.take_append_of_le_length (by omega), List.take_of_length_le (by omega)]; have := h.Sl; omega⟩, by omega⟩
  rcases Nat.lt_or_ge j i with hj | hj
  · rw [List.getElem?_append_left (by omega)] at h1
    rw [List.take_append_of_le_length (by omega)]
    exact h.node j n' s' h1 h2
  · have hjl : j < (l ++ [n]).length := (List.getElem?_eq_some_iff.1 h1).1
    obtain rfl : j = i := by simp at hjl; omega
    have e : n' = n := by
      rw [List.getElem?_append_right (by omega), hli, Nat.sub_self] at h1
      simpa using h1.symm
    rw [hs] at h2
    injection h2 with h2
    subst h2
    subst e
    exact .inr hn
theorem TreeInv.branch (h : TreeInv P full i S l) (hs : S[i]? = some s) {v : Nat} (hv : s[v]? = some (-1)) : TreeInv P full (i + 1) (S ++ [s.set v 0, s.set v 1]) (l ++ [⟨1, v, S.length, S.length + 1, 0, 0, 0⟩]) ∧ wsum ((S ++ [s.set v 0, s.set v 1]).drop (i + 1)) < wsum (S.drop i) := by
  have hlt := (List.getElem?_eq_some_iff.1 hs).1
  have hvl := (List.getElem?_eq_some_iff.1 hv).1
  have hw : wsum (S.drop i) = wt s + wsum (S.drop (i + 1)) := by rw [drop_at hs, wsum]
  have hsO := h.tri s (List.mem_of_getElem? hs)
  have hsl := st_len hsO
  have h0 := wt_set (x := 0) (by omega) hv
  have h1 := wt_set (x := 1) (by omega) hv
  have hd : (S ++ [s.set v 0, s.set v 1]).drop (i + 1) = S.drop (i + 1) ++ [s.set v 0, s.set v 1] := by
    rw [List.drop_append_of_le_length (by omega)]
  have hws : wsum ((S ++ [s.set v 0, s.set v 1]).drop (i + 1)) + 1 = wsum (S.drop i) := by
    rw [hd, wsum_append, hw]
    simp only [wsum]
    omega
  have hli := h.li
  have hSl := h.Sl
  refine ⟨⟨by simp [hli], by simp; omega, by rw [brs_snoc, if_pos rfl]; simp; omega, ?_, fun x hx => ?_, fun j n' s' g1 g2 => ?_, by have := h.size; omega, fun j hj => by
      rcases Nat.lt_or_ge j i with hji | hji
      · rw [List.take_append_of_le_length (by omega)]; exact h.pre j hji
      · rw [List.take_append_of_le_length (by omega), List.take_of_length_le (by omega)]; have := h.Sl; omega⟩, by omega⟩
  · rw [List.getElem?_append_left (by omega)]; exact h.root
  · rcases List.mem_append.1 hx with hx | hx
    · exact h.tri x hx
    · simp at hx
      rcases hx with rfl | rfl
      · exact stO_set hsO (by omega)
      · exact stO_set hsO (by omega)
  · rcases Nat.lt_or_ge j i with hj | hj
    · rw [List.getElem?_append_left (by omega)] at g1
      rw [List.getElem?_append_left (by omega)] at g2
      rw [List.take_append_of_le_length (by omega)]
      rcases h.node j n' s' g1 g2 with ⟨a1, a2, a3, a4, a5, a6, a7, a8, a9⟩ | a
      · refine .inl ⟨a1, a2, a3, a4, a5, a6, a7, ?_, ?_⟩
        · rw [List.getElem?_append_left (List.getElem?_eq_some_iff.1 a8).1]; exact a8
        · rw [List.getElem?_append_left (List.getElem?_eq_some_iff.1 a9).1]; exact a9
      · exact .inr a
    · have hjl := (List.getElem?_eq_some_iff.1 g1).1
      obtain rfl : j = i := by simp at hjl; omega
      have e : n' = ⟨1, v, S.length, S.length + 1, 0, 0, 0⟩ := by
        rw [List.getElem?_append_right (by omega), hli, Nat.sub_self] at g1
        simpa using g1.symm
      rw [List.getElem?_append_left (by omega), hs] at g2
      injection g2 with g2
      subst g2
      subst e
      have et : (l ++ [(⟨1, v, S.length, S.length + 1, 0, 0, 0⟩ : Nd)]).take j = l := by
        rw [List.take_append_of_le_length (by omega), List.take_of_length_le (by omega)]
      rw [et, ← hSl]
      refine .inl ⟨rfl, rfl, rfl, hlt, by show (0 : Int) ≤ v; omega, by show (v : Int) < _; omega, ?_, ?_, ?_⟩
      · show nth s (v : Int).toNat = -1
        rw [Int.toNat_natCast, nth_eq hv]
      · show (S ++ [s.set v 0, s.set v 1])[S.length]? = some (s.set (v : Int).toNat 0)
        rw [List.getElem?_append_right (by omega), Nat.sub_self, Int.toNat_natCast]; rfl
      · show (S ++ [s.set v 0, s.set v 1])[S.length + 1]? = some (s.set (v : Int).toNat 1)
        rw [List.getElem?_append_right (by omega), show S.length + 1 - S.length = 1 by omega, Int.toNat_natCast]; rfl
theorem TreeInv.small (h : TreeInv P full i S l) (hc : P.costs.length ≤ 18) : S.length ≤ 524287 := by
  have h1 := h.size
  have h2 := len_wsum (S.drop i)
  have h3 := h.iS
  have h4 : 2 ^ (P.costs.length + 1) ≤ 2 ^ 19 := Nat.pow_le_pow_right (by omega) (by omega)
  rw [List.length_drop] at h2
  omega
end
end Go.Proofs.Ytjbmdaoppiinbaa
end

/- Layer 9: each choice completes exactly one leaf. -/
section
namespace Go.Proofs.Ytjbmdaoppiinbaa
set_option linter.unusedVariables false
set_option linter.unusedSimpArgs false
set_option linter.unnecessarySimpa false
set_option linter.unusedSectionVars false
set_option maxRecDepth 10000
open Go.RowKit

theorem sumN_upd (f : Nat → Int) (k : Nat) (x : Int) : ∀ n, sumN (fun j => if j = k then x else f j) n = sumN f n + if k < n then x - f k else 0
  | 0 => by simp [sumN]
  | n + 1 => by
    simp only [sumN, sumN_upd f k x n]
    by_cases h : k < n
    · have h1 : ¬ n = k := by omega
      have h2 : k < n + 1 := by omega
      simp only [h, h1, h2, if_true, if_false]; omega
    · by_cases h' : n = k
      · subst h'; simp; omega
      · have h2 : ¬ k < n + 1 := by omega
        simp only [h, h', h2, if_false]; omega
/-- Whether the choice of the bits t completes a state: 1 or 0. -/
def com (c t : Nat) (s : List Int) : Int := if completeB s (subTo t c) = true then 1 else 0
theorem com_compl {c t : Nat} {s : List Int} (h : s.length = c) : (completeB s (subTo t c) = true) ↔ Compl s t := by subst h; exact com_sub
theorem compl_set {t v : Nat} {s : List Int} {x : Int} (hv : v < s.length) (hs : nth s v = -1) : Compl (s.set v x) t ↔ Compl s t ∧ (x = 1 → t.testBit v = true) ∧ (x = 0 → t.testBit v = false) := by
  constructor
  · intro h
    refine ⟨fun i hi => ?_, fun hx => ?_, fun hx => ?_⟩
    · have := h i (by simpa using hi)
      rw [nth_set] at this
      by_cases e : i = v
      · subst e; rw [hs]; exact ⟨fun h => by omega, fun h => by omega⟩
      · rw [if_neg (fun h => e h.1)] at this; exact this
    · have := (h v (by simpa using hv)).1
      rw [nth_set, if_pos ⟨rfl, hv⟩] at this
      exact this hx
    · have := (h v (by simpa using hv)).2
      rw [nth_set, if_pos ⟨rfl, hv⟩] at this
      exact this hx
  · rintro ⟨h, h1, h0⟩ i hi
    rw [nth_set]
    by_cases e : i = v ∧ v < s.length
    · rw [if_pos e, e.1]; exact ⟨h1, h0⟩
    · rw [if_neg e]; exact h i (by simpa using hi)
theorem com_split {c t v : Nat} {s : List Int} (hl : s.length = c) (hv : v < c) (hs : nth s v = -1) : com c t (s.set v 0) + com c t (s.set v 1) = com c t s := by
  have e0 := (com_compl (t := t) (show (s.set v 0).length = c by simpa using hl)).trans (compl_set (by omega) hs)
  have e1 := (com_compl (t := t) (show (s.set v 1).length = c by simpa using hl)).trans (compl_set (by omega) hs)
  have e := com_compl (t := t) hl
  unfold com
  by_cases hc : Compl s t
  · rw [if_pos (e.2 hc)]
    cases hb : t.testBit v with
    | true => rw [if_neg (fun h => by have := ((e0.1 h).2.2 rfl); rw [hb] at this; cases this), if_pos (e1.2 ⟨hc, fun _ => hb, fun h => by omega⟩)]; rfl
    | false => rw [if_pos (e0.2 ⟨hc, fun h => by omega, fun _ => hb⟩), if_neg (fun h => by have := ((e1.1 h).2.1 rfl); rw [hb] at this; cases this)]; rfl
  · rw [if_neg (fun h => hc (e.1 h)), if_neg (fun h => hc (e0.1 h).1), if_neg (fun h => hc (e1.1 h).1)]; rfl
def leafC (c t : Nat) (nodes : List Nd) (out : List (List Int)) (j : Nat) : Int := if (nodes.getD j nd0).kind ≠ 1 then com c t (out.getD j []) else 0
def pendC (c t : Nat) (nodes : List Nd) (out : List (List Int)) (kn : List Bool) (i j : Nat) : Int := if j < i then leafC c t nodes out j else if kn.getD j false = true then com c t (out.getD j []) else 0
theorem getD_set_self {α : Type} {xs : List α} {k : Nat} {x d : α} (h : k < xs.length) : (xs.set k x).getD k d = x := by rw [List.getD_eq_getElem?_getD, List.getElem?_set_self h]; rfl
theorem getD_set_ne' {α : Type} {xs : List α} {k j : Nat} {x d : α} (h : k ≠ j) : (xs.set k x).getD j d = xs.getD j d := by rw [List.getD_eq_getElem?_getD, List.getElem?_set_ne h, ← List.getD_eq_getElem?_getD]
theorem goS_count {c rows t : Nat} {nodes : List Nd} {o : List (List Int)} : ∀ (m i : Nat) (out : List (List Int)) (kn : List Bool), m = nodes.length - i → i ≤ nodes.length → out.length = nodes.length → kn.length = nodes.length → (∀ (j : Nat) s, kn[j]? = some true → out[j]? = some s → stOB s c = true) → sumN (pendC c t nodes out kn i) nodes.length = 1 →
    goS c rows nodes.length i out kn (nodes.drop i) = some o → sumN (leafC c t nodes o) nodes.length = 1 := by
  intro m
  induction m with
  | zero =>
    intro i out kn hm hi ho hk hst hsum hgo
    rw [drop_end (by omega)] at hgo
    simp only [goS, Option.some.injEq] at hgo
    subst hgo
    rw [← hsum]
    exact sumN_congr fun j hj => by rw [pendC, if_pos (by omega)]
  | succ m ih =>
    intro i out kn hm hi ho hk hst hsum hgo
    have hlt : i < nodes.length := by omega
    obtain ⟨y, hy⟩ : ∃ y, nodes[i]? = some y := ⟨_, List.getElem?_eq_getElem hlt⟩
    obtain ⟨b, hb⟩ : ∃ b, kn[i]? = some b := ⟨_, List.getElem?_eq_getElem (by omega)⟩
    rw [drop_at hy] at hgo
    cases b with
    | false => rw [go_none (step_un hb)] at hgo; cases hgo
    | true =>
      have hkn : kn.getD i false = true := getD_some hb
      have hyd : nodes.getD i nd0 = y := getD_some hy
      by_cases hkind : y.kind = 1
      · have e := step_br (c := c) (rows := rows) (N := nodes.length) hb hkind (out := out)
        by_cases hbr : brC c nodes.length i y out kn
        · rw [if_pos hbr] at e
          rw [go_some e] at hgo
          obtain ⟨b1, b2, b3, b4, b5, b6, b7, b8, b9, b10⟩ := hbr
          obtain ⟨st, hs⟩ : ∃ st, out[i]? = some st := ⟨_, List.getElem?_eq_getElem (by omega)⟩
          have ht := hst i st hb hs
          have hsl := st_len ht
          rw [getD_some hs] at hgo b10
          refine ih (i + 1) _ _ (by omega) (by omega) (by simp; exact ho) (by simp; exact hk) (known_tri (N := nodes.length) (by simp; exact ho) (by simp; exact hk) (by omega) (stO_set ht (by omega)) (known_tri ho hk (by omega) (stO_set ht (by omega)) hst)) ?_ hgo
          have hcs := com_split (t := t) hsl (show y.var.toNat < c by omega) b10
          have key : sumN (pendC c t nodes ((out.set y.zero.toNat (st.set y.var.toNat 0)).set y.one.toNat (st.set y.var.toNat 1)) ((kn.set y.zero.toNat true).set y.one.toNat true) (i + 1)) nodes.length
              = sumN (fun j => if j = y.one.toNat then com c t (st.set y.var.toNat 1) else (fun j => if j = y.zero.toNat then com c t (st.set y.var.toNat 0) else (fun j => if j = i then 0 else pendC c t nodes out kn i j) j) j) nodes.length := sumN_congr fun j hj => by
            by_cases e1 : j = y.one.toNat
            · subst e1
              rw [if_pos rfl, pendC, if_neg (by omega), getD_set_self (by simp; omega), if_pos rfl, getD_set_self (by simp; omega)]
            · rw [if_neg e1]
              by_cases e2 : j = y.zero.toNat
              · subst e2
                simp only [if_true]
                have q1 : ((kn.set y.zero.toNat true).set y.one.toNat true).getD y.zero.toNat false = true := by rw [getD_set_ne' (by omega), getD_set_self (by omega)]
                have q2 : ((out.set y.zero.toNat (st.set y.var.toNat 0)).set y.one.toNat (st.set y.var.toNat 1)).getD y.zero.toNat [] = st.set y.var.toNat 0 := by rw [getD_set_ne' (by omega), getD_set_self (by omega)]
                rw [pendC, if_neg (by omega), q1, if_pos rfl, q2]
              · simp only [if_neg e2]
                have eo : ((out.set y.zero.toNat (st.set y.var.toNat 0)).set y.one.toNat (st.set y.var.toNat 1)).getD j [] = out.getD j [] := by rw [getD_set_ne' (by omega), getD_set_ne' (by omega)]
                have ek : ((kn.set y.zero.toNat true).set y.one.toNat true).getD j false = kn.getD j false := by rw [getD_set_ne' (by omega), getD_set_ne' (by omega)]
                by_cases e3 : j = i
                · subst e3
                  rw [if_pos rfl, pendC, if_pos (by omega), leafC, hyd, if_neg (by simp [hkind])]
                · rw [if_neg e3]
                  unfold pendC leafC
                  rw [eo, ek]
                  by_cases e4 : j < i
                  · rw [if_pos e4, if_pos (by omega)]
                  · rw [if_neg e4, if_neg (by omega)]
          rw [key, sumN_upd, sumN_upd, sumN_upd, hsum]
          have q5 : y.zero.toNat < nodes.length := by omega
          have q6 : y.one.toNat < nodes.length := by omega
          have p1 : pendC c t nodes out kn i i = com c t st := by rw [pendC, if_neg (by omega), if_pos hkn, getD_some hs]
          have p2 : pendC c t nodes out kn i y.zero.toNat = 0 := by rw [pendC, if_neg (by omega), if_neg (by rw [b8]; decide)]
          have p3 : pendC c t nodes out kn i y.one.toNat = 0 := by rw [pendC, if_neg (by omega), if_neg (by rw [b9]; decide)]
          simp only [hlt, q5, q6, if_true, if_neg (show ¬ y.zero.toNat = i by omega), if_neg (show ¬ y.one.toNat = i by omega), if_neg (show ¬ y.one.toNat = y.zero.toNat by omega), p1, p2, p3]
          omega
        · rw [if_neg hbr] at e
          rw [go_none e] at hgo
          cases hgo
      · have e := step_leaf (c := c) (rows := rows) (N := nodes.length) hb hkind (out := out)
        by_cases hl : (infB rows y || bndB rows y) = true
        · rw [if_pos hl] at e
          rw [go_some e] at hgo
          refine ih (i + 1) _ _ (by omega) (by omega) ho hk hst ?_ hgo
          rw [← hsum]
          refine sumN_congr fun j hj => ?_
          unfold pendC
          by_cases e3 : j = i
          · subst e3
            rw [if_pos (by omega), if_neg (by omega), if_pos hkn, leafC, hyd, if_pos hkind]
          · by_cases e4 : j < i
            · rw [if_pos (by omega), if_pos e4]
            · rw [if_neg (by omega), if_neg e4]
        · rw [if_neg hl] at e
          rw [go_none e] at hgo
          cases hgo
theorem sumN_zero' {f : Nat → Int} : ∀ {n : Nat}, (∀ k, k < n → f k = 0) → sumN f n = 0
  | 0, _ => rfl
  | n + 1, h => by rw [sumN, sumN_zero' fun k hk => h k (by omega), h n (by omega)]; rfl
theorem states_count {P : Prog} {nodes : List Nd} {o : List (List Int)} {e : Int} (h : statesF P nodes = (some o, e)) (t : Nat) : sumN (leafC P.costs.length t nodes o) nodes.length = 1 := by
  have hg := states_good h
  unfold statesF at h
  rw [if_neg (by rw [hg.2.1]; decide), if_neg (by omega), if_neg (by omega)] at h
  split at h
  · cases h
  · next o' ho =>
    simp only [Prod.mk.injEq, Option.some.injEq] at h
    obtain ⟨rfl, rfl⟩ := h
    have h0 := hg.2.2.1
    refine goS_count (rows := P.rows.length) (nodes.length - 0) 0 ((List.replicate nodes.length []).set 0 (List.replicate P.costs.length (-1))) ((List.replicate nodes.length false).set 0 true) rfl (Nat.zero_le _) (by simp) (by simp) ?_ ?_ (by simpa using ho)
    · refine known_tri (N := nodes.length) (by simp) (by simp) (by omega) ?_ (fun j s hj => ?_)
      · simp [stOB, tri9]
      · rw [List.getElem?_replicate] at hj
        split at hj <;> simp at hj
    · have hcom : com P.costs.length t (List.replicate P.costs.length (-1)) = 1 := by
        rw [com, if_pos]
        rw [com_compl (by simp)]
        intro i hi
        have : nth (List.replicate P.costs.length (-1)) i = -1 := by
          rw [List.length_replicate] at hi
          simp [nth, List.getD_eq_getElem?_getD, hi]
        rw [this]
        exact ⟨fun h => by omega, fun h => by omega⟩
      have key : sumN (pendC P.costs.length t nodes ((List.replicate nodes.length []).set 0 (List.replicate P.costs.length (-1))) ((List.replicate nodes.length false).set 0 true) 0) nodes.length = sumN (fun j => if j = 0 then 1 else (fun _ => (0 : Int)) j) nodes.length := sumN_congr fun j hj => by
        unfold pendC
        rw [if_neg (by omega)]
        by_cases e : j = 0
        · subst e
          rw [getD_set_self (by simpa using h0), if_pos rfl, getD_set_self (by simpa using h0), if_pos rfl, hcom]
        · rw [getD_set_ne' (by omega), if_neg e, if_neg]
          simp [List.getD_eq_getElem?_getD, List.getElem?_replicate, hj]
      rw [key, sumN_upd, sumN_zero' (fun _ _ => rfl), if_pos h0]
      rfl
end Go.Proofs.Ytjbmdaoppiinbaa
end

/- Layer 9: the law OptimalityDivides. -/
section
namespace Go.Proofs.Ytjbmdaoppiinbaa
set_option linter.unusedVariables false
set_option linter.unusedSimpArgs false
set_option linter.unnecessarySimpa false
set_option linter.unusedSectionVars false
set_option maxRecDepth 10000
open Go.RowKit

end Go.Proofs.Ytjbmdaoppiinbaa
end

/- From a contract of the interpreter to a law's call: slices of structs whose fields are numbers. -/
section
namespace Go.Proofs.Ytjbmdaoppiinbaa
set_option linter.unusedVariables false
set_option linter.unusedSimpArgs false
open Go.RowKit Go.ChangeShapes Go.WideShapes Go.Deep

section
variable {H : Type} {enc : TypeId × Value → H} {P : Program} {w : World} {base : Nat} {spare : Nat → Bool} {held : Bool}
end
end Go.Proofs.Ytjbmdaoppiinbaa
end

/- Layer 9: what is proved is sound; the law OptimalitySound. -/
section
namespace Go.Proofs.Ytjbmdaoppiinbaa
set_option linter.unusedVariables false
set_option linter.unusedSimpArgs false
set_option linter.unnecessarySimpa false
set_option linter.unusedSectionVars false
set_option maxRecDepth 10000
open Go.RowKit

theorem blocked_not {P : Prog} {s : List Int} {r : Row} {t : Nat} (hv : validB P = true) (hr : r ∈ P.rows) (hs : stOB s P.costs.length = true) (hc : Compl s t) (hb : blockedB s r = true) : meetB (subTo t P.costs.length) r = false := by
  have hl := st_len hs
  have h1 := blocked_span hv hr hs
  have h2 := span_holds (cs := r.coefs) hc (tri_all hs) s.length (Nat.le_refl _)
  have hcl := (valid_rows hv hr).1
  have h3 : spanF r.coefs s = spanTo r.coefs s s.length := by rw [spanF, h1.1, if_pos rfl, hcl, hl]
  rw [h1.2, h3] at hb
  rw [hl] at h2 hb
  cases hm : meetB (subTo t P.costs.length) r with
  | false => rfl
  | true =>
    exfalso
    simp only [meetB, Bool.and_eq_true, decide_eq_true_eq, sumOf_sub] at hm
    simp at hb
    omega
theorem goP_spec {P : Prog} : ∀ (ss : List (List Int)) (ns : List Nd) (best : Int) (sm : Bool) (b : Int) (s' : Bool), goP P ss ns best sm = (b, s', 0) → (sm = true → s' = true ∧ b ≤ best) ∧ ∀ (j : Nat) s n, ss[j]? = some s → ns[j]? = some n → (n.kind = 2 → blockedB s (rowAt P.rows n.row.toNat) = true) ∧ (n.kind = 3 → s' = true ∧ b ≤ boundF P s n)
  | [], ns, best, sm, b, s', h => by
    simp only [goP, Prod.mk.injEq] at h
    exact ⟨fun hh => ⟨by rw [← h.2.1]; exact hh, by omega⟩, fun j s n h1 => by simp at h1⟩
  | s :: ss, [], best, sm, b, s', h => by
    simp only [goP, Prod.mk.injEq] at h
    exact ⟨fun hh => ⟨by rw [← h.2.1]; exact hh, by omega⟩, fun j s n _ h1 => by simp at h1⟩
  | s :: ss, n :: ns, best, sm, b, s', h => by
    rw [goP] at h
    by_cases h2 : n.kind = 2
    · rw [if_pos h2] at h
      by_cases hb : blockedB s (rowAt P.rows n.row.toNat) = false
      · rw [if_pos hb] at h
        simp at h
      · rw [if_neg hb] at h
        have ih := goP_spec ss ns best sm b s' h
        refine ⟨ih.1, fun j x y g1 g2 => ?_⟩
        cases j with
        | zero =>
          simp at g1 g2
          subst g1 g2
          exact ⟨fun _ => by simpa using hb, fun h3 => by omega⟩
        | succ j => exact ih.2 j x y (by simpa using g1) (by simpa using g2)
    · rw [if_neg h2] at h
      by_cases h3 : n.kind = 3
      · rw [if_pos h3] at h
        have ih := goP_spec ss ns _ true b s' h
        have hbb := ih.1 rfl
        refine ⟨fun hh => ⟨hbb.1, ?_⟩, fun j x y g1 g2 => ?_⟩
        · have := hbb.2
          split at this
          · next hor => rcases hor with ho | ho
                        · rw [hh] at ho; cases ho
                        · omega
          · exact this
        · cases j with
          | zero =>
            simp at g1 g2
            subst g1 g2
            refine ⟨fun h => by omega, fun _ => ⟨hbb.1, ?_⟩⟩
            have := hbb.2
            split at this
            · exact this
            · next hor => have : ¬ boundF P s n < best := fun hh => hor (.inr hh)
                          omega
          | succ j => exact ih.2 j x y (by simpa using g1) (by simpa using g2)
      · rw [if_neg h3] at h
        have ih := goP_spec ss ns best sm b s' h
        refine ⟨ih.1, fun j x y g1 g2 => ?_⟩
        cases j with
        | zero =>
          simp at g1 g2
          subst g1 g2
          exact ⟨fun h => absurd h h2, fun h => absurd h h3⟩
        | succ j => exact ih.2 j x y (by simpa using g1) (by simpa using g2)
theorem sumN_ex {f : Nat → Int} : ∀ {n : Nat}, sumN f n = 1 → ∃ j, j < n ∧ f j ≠ 0
  | 0, h => by simp [sumN] at h
  | n + 1, h => by
    by_cases e : f n = 0
    · obtain ⟨j, hj, hf⟩ := sumN_ex (f := f) (n := n) (by rw [sumN, e] at h; omega)
      exact ⟨j, by omega, hf⟩
    · exact ⟨n, by omega, e⟩
/-- A bound that is proved is at most the cost of every choice that meets the program. -/
theorem proved_sound {P : Prog} {nodes : List Nd} {b : Int} {sm : Bool} (h : provedF P nodes = (b, sm, 0)) {t : Nat} (hm : meetsB P (subTo t P.costs.length) = true) : sm = true ∧ b ≤ costF P (subTo t P.costs.length) := by
  rcases states_err (P := P) (nodes := nodes) with ⟨o, ho⟩ | ⟨e, he, ho⟩
  · obtain ⟨-, hv, h0, h8, hol, hgood⟩ := states_good ho
    rw [provedF, ho] at h
    have hp := goP_spec o nodes 0 false b sm h
    obtain ⟨j, hj, hf⟩ := sumN_ex (states_count ho t)
    obtain ⟨n, hn⟩ : ∃ n, nodes[j]? = some n := ⟨_, List.getElem?_eq_getElem hj⟩
    obtain ⟨s, hs⟩ : ∃ s, o[j]? = some s := ⟨_, List.getElem?_eq_getElem (by omega)⟩
    have hg := hgood j s n hs hn
    have hsl := st_len hg.1
    have hnc := node_cases hg.2
    rw [leafC, getD_some hn, getD_some hs] at hf
    have hk : n.kind ≠ 1 := fun e => hf (by rw [if_neg (by simp [e])])
    rw [if_pos hk, com] at hf
    have hc : Compl s t := by
      rw [← com_compl hsl]
      cases hcc : completeB s (subTo t P.costs.length) with
      | true => rfl
      | false => rw [hcc] at hf; simp at hf
    have hq := hp.2 j s n hs hn
    have hor := hg.2 hk
    rw [Bool.or_eq_true] at hor
    rcases hor with hi | hb
    · have h2 : n.kind = 2 := by simp [infB] at hi; omega
      have hrow := hnc.1 h2
      exfalso
      have := blocked_not hv (rowAt_mem (show n.row.toNat < P.rows.length by omega)) hg.1 hc (hq.1 h2)
      simp only [meetsB, Bool.and_eq_true] at hm
      have h3 := List.all_eq_true.1 hm.2 _ (rowAt_mem (show n.row.toNat < P.rows.length by omega))
      rw [this] at h3
      cases h3
    · have h3 : n.kind = 3 := by rw [bnd_row] at hb; simp at hb; exact hb.1
      have h4 := hq.2 h3
      have h5 := bound_sound hv hb hsl (tri_all hg.1) hc hm
      exact ⟨h4.1, by omega⟩
  · rw [provedF, ho] at h
    simp at h
    omega
end Go.Proofs.Ytjbmdaoppiinbaa
end

/- Layer 9: a tree that the tape makes in full, and what it proves; the law OptimalityBest. -/
section
namespace Go.Proofs.Ytjbmdaoppiinbaa
set_option linter.unusedVariables false
set_option linter.unusedSimpArgs false
set_option linter.unnecessarySimpa false
set_option linter.unusedSectionVars false
set_option maxRecDepth 10000
open Go.RowKit

theorem first_spec {st : List Int} : ∀ (rows : List Row) (k : Nat), firstFrom st k rows = -1 ∨ ∃ j, j < rows.length ∧ firstFrom st k rows = ((k + j : Nat) : Int) ∧ blockedB st (rowAt rows j) = true
  | [], _ => .inl rfl
  | r :: rs, k => by
    rw [firstFrom]
    split
    · next h => exact .inr ⟨0, by simp, by simp, by simpa [rowAt] using h⟩
    · rcases first_spec (st := st) rs (k + 1) with h | ⟨j, h1, h2, h3⟩
      · exact .inl h
      · exact .inr ⟨j + 1, by simp; omega, by rw [h2]; omega, by simpa [rowAt] using h3⟩
theorem dead_row {P : Prog} {s : List Int} (h : 0 ≤ deadF P s) : deadF P s < P.rows.length ∧ blockedB s (rowAt P.rows (deadF P s).toNat) = true := by
  unfold deadF at *
  cases hd : deadB P s with
  | false => rw [hd] at h; simp at h
  | true =>
    rw [hd] at h
    simp only [if_true] at h ⊢
    rcases first_spec (st := s) P.rows 0 with h1 | ⟨j, h1, h2, h3⟩
    · omega
    · rw [h2]
      refine ⟨by omega, ?_⟩
      rw [Int.toNat_natCast, Nat.zero_add]
      exact h3
theorem goP_ok {P : Prog} : ∀ (ss : List (List Int)) (ns : List Nd) (best : Int) (sm : Bool), (∀ (j : Nat) s n, ss[j]? = some s → ns[j]? = some n → n.kind = 2 → blockedB s (rowAt P.rows n.row.toNat) = true) → (goP P ss ns best sm).2.2 = 0
  | [], ns, best, sm, h => by simp only [goP]
  | s :: ss, [], best, sm, h => by simp only [goP]
  | s :: ss, n :: ns, best, sm, h => by
    have ih := fun b m => goP_ok ss ns b m fun j s n h1 h2 => h (j + 1) s n (by simpa using h1) (by simpa using h2)
    have h0 := h 0 s n rfl rfl
    rw [goP]
    split
    · next h2 => rw [if_neg (by rw [h0 h2]; decide)]; exact ih _ _
    · split
      · exact ih _ _
      · exact ih _ _
theorem goP_at {P : Prog} : ∀ (ss : List (List Int)) (ns : List Nd) (best : Int) (sm : Bool) (b : Int), goP P ss ns best sm = (b, true, 0) → (sm = true ∧ b = best) ∨ ∃ (j : Nat) (s : List Int) (n : Nd), ss[j]? = some s ∧ ns[j]? = some n ∧ n.kind = 3 ∧ b = boundF P s n
  | [], ns, best, sm, b, h => by
    simp only [goP, Prod.mk.injEq] at h
    exact .inl ⟨h.2.1, h.1.symm⟩
  | s :: ss, [], best, sm, b, h => by
    simp only [goP, Prod.mk.injEq] at h
    exact .inl ⟨h.2.1, h.1.symm⟩
  | s :: ss, n :: ns, best, sm, b, h => by
    have up : ((∃ (j : Nat) (s : List Int) (n : Nd), ss[j]? = some s ∧ ns[j]? = some n ∧ n.kind = 3 ∧ b = boundF P s n)) → ∃ (j : Nat) (s' : List Int) (n' : Nd), (s :: ss)[j]? = some s' ∧ (n :: ns)[j]? = some n' ∧ n'.kind = 3 ∧ b = boundF P s' n' := fun ⟨j, s', n', h1, h2, h3⟩ => ⟨j + 1, s', n', by simpa using h1, by simpa using h2, h3⟩
    rw [goP] at h
    split at h
    · split at h
      · simp at h
      · exact (goP_at ss ns best sm b h).imp id up
    · split at h
      · next h3 =>
        rcases goP_at ss ns _ true b h with ⟨-, e⟩ | e
        · split at e
          · exact .inr ⟨0, s, n, rfl, rfl, h3, e⟩
          · next hno => exact .inl ⟨by cases sm with | true => rfl | false => exact absurd (.inl rfl) hno, e⟩
        · exact .inr (up e)
      · exact (goP_at ss ns best sm b h).imp id up
/-- The bound of a state without undecided options. -/
theorem bound_decided {P : Prog} {s : List Int} {t : Nat} (hl : s.length = P.costs.length) (hst : AllTo triB s s.length) (hne : ∀ x ∈ s, x ≠ -1) (hc : Compl s t) : boundF P s ⟨3, 0, 0, 0, -1, 0, 1⟩ = bitSum P.costs t P.costs.length := by
  have hsum : ∀ k, k ≤ s.length → sumN (fun i => contr (nth s i) (nodeV P ⟨3, 0, 0, 0, -1, 0, 1⟩ i)) k = bitSum P.costs t k := by
    intro k
    induction k with
    | zero => intro _; rfl
    | succ k ih =>
      intro hk
      rw [sumN, bitSum, ih (by omega)]
      congr 1
      have h1 := hst k (by omega)
      rw [triB_iff] at h1
      have h2 := hne _ (nth_mem (show k < s.length by omega))
      have h3 := hc k (by omega)
      have hn : nodeV P ⟨3, 0, 0, 0, -1, 0, 1⟩ k = nth P.costs k := by simp [nodeV]
      rw [hn, contr]
      by_cases e : nth s k = 1
      · rw [if_pos e, if_pos (h3.1 e)]
      · have e0 : nth s k = 0 := by omega
        rw [if_neg e, if_neg h2, if_neg (by rw [h3.2 e0]; decide)]
  have htot : totF P s ⟨3, 0, 0, 0, -1, 0, 1⟩ P.costs.length = bitSum P.costs t P.costs.length := by
    rw [totF, hsum _ (by omega)]
    have : startF P ⟨3, 0, 0, 0, -1, 0, 1⟩ = 0 := by simp [startF]
    rw [this]; omega
  rw [boundF, htot]
  simp [ceilF]
end Go.Proofs.Ytjbmdaoppiinbaa
end

/- Layer 10, plain: the certificate is accepted. -/
section
namespace Go.Proofs.Ytjbmdaoppiinbaa
set_option linter.unusedVariables false
set_option linter.unusedSimpArgs false
set_option linter.unnecessarySimpa false
set_option linter.unusedSectionVars false
set_option maxRecDepth 10000
open Go.RowKit
/-- Ascending lists with the same elements are equal. -/
theorem asc_ext : ∀ {a b : List Int} {lo hi lo' hi' : Nat}, Asc lo hi a → Asc lo' hi' b → (∀ x, x ∈ a ↔ x ∈ b) → a = b
  | [], [], _, _, _, _, _, _, _ => rfl
  | [], y :: b, _, _, _, _, _, _, h => absurd ((h y).2 (by simp)) (by simp)
  | x :: a, [], _, _, _, _, _, _, h => absurd ((h x).1 (by simp)) (by simp)
  | x :: a, y :: b, lo, hi, lo', hi', ha, hb, h => by
    have pa := List.pairwise_cons.1 ha.1
    have pb := List.pairwise_cons.1 hb.1
    have e : x = y := by
      rcases List.mem_cons.1 ((h x).1 (by simp)) with e | e
      · exact e
      · rcases List.mem_cons.1 ((h y).2 (by simp)) with e' | e'
        · exact e'.symm
        · have h1 := pb.1 x e; have h2 := pa.1 y e'; omega
    subst e
    rw [asc_ext (a := a) (b := b) (lo := lo) (hi := hi) (lo' := lo') (hi' := hi') ⟨pa.2, fun z hz => ha.2 z (by simp [hz])⟩ ⟨pb.2, fun z hz => hb.2 z (by simp [hz])⟩ fun z => ?_]
    constructor
    · intro hz
      rcases List.mem_cons.1 ((h z).1 (by simp [hz])) with e | e
      · have := pa.1 z hz; omega
      · exact e
    · intro hz
      rcases List.mem_cons.1 ((h z).2 (by simp [hz])) with e | e
      · have := pb.1 z hz; omega
      · exact e
/-- The states of the tree's nodes. -/
def stsF (P : Prog) (f : Bool) (b : Int) : Nat → Nat → List Int → List (List Int)
  | 0, o, st => [st]
  | m + 1, o, st => match leafN P f b o st with
    | some _ => [st]
    | none => st :: (stsF P f b m (o + 1) (st.set o 0) ++ stsF P f b m (o + 1) (st.set o 1))
section
variable {P : Prog} {f : Bool} {b : Int}
theorem sts_len : ∀ {m o : Nat} {st : List Int} {base : Nat}, (stsF P f b m o st).length = (treeF P f b m o st base).length
  | 0, o, st, base => rfl
  | m + 1, o, st, base => by
    rw [stsF, treeF]
    cases hlf : leafN P f b o st with
    | some n => rfl
    | none =>
      simp only [List.length_cons, List.length_append]
      rw [sts_len (m := m) (base := base + 1), sts_len (m := m) (st := st.set o 1) (base := base + 1 + (treeF P f b m (o + 1) (st.set o 0) (base + 1)).length)]
theorem sts_leaf {m o : Nat} {st : List Int} {n : Nd} (h : leafN P f b o st = some n) : stsF P f b m o st = [st] := by
  cases m with
  | zero => rfl
  | succ m => simp [stsF, h]
theorem spl_len {α : Type} {L cs : List α} {off : Nat} (h : off + cs.length ≤ L.length) : (spl L off cs).length = L.length := by
  simp [spl]; omega
theorem spl_get {α : Type} {L cs : List α} {off i : Nat} (h : off + cs.length ≤ L.length) : (spl L off cs)[i]? = if i < off then L[i]? else if i < off + cs.length then cs[i - off]? else L[i]? := by
  unfold spl
  by_cases h1 : i < off
  · rw [if_pos h1, List.getElem?_append_left (by simp; omega), List.getElem?_take, if_pos h1]
  · rw [if_neg h1, List.getElem?_append_right (by simp; omega), List.length_take, Nat.min_eq_left (by omega)]
    by_cases h2 : i < off + cs.length
    · rw [if_pos h2, List.getElem?_append_left (by omega)]
    · rw [if_neg h2, List.getElem?_append_right (by omega), List.getElem?_drop]
      congr 1
      omega
theorem spl_one {α : Type} {L : List α} {off : Nat} {x : α} (h : L[off]? = some x) : spl L off [x] = L := by
  have hl := (List.getElem?_eq_some_iff.1 h).1
  refine List.ext_getElem? fun i => ?_
  rw [spl_get (by simp; omega)]
  split
  · rfl
  · split
    · next h1 h2 =>
      simp at h2
      obtain rfl : i = off := by omega
      rw [h, Nat.sub_self]; rfl
    · rfl
theorem leaf_ok {o : Nat} {st : List Int} {n : Nd} (h : leafN P f b o st = some n) : n.kind ≠ 1 ∧ (infB P.rows.length n || bndB P.rows.length n) = true := by
  unfold leafN at h
  split at h
  · next hd =>
    injection h with h
    subst h
    have := (dead_row hd).1
    exact ⟨by show (2 : Int) ≠ 1; omega, by simp [infB, hd, this]⟩
  · split at h
    · injection h with h
      subst h
      exact ⟨by decide, by simp [bndB, plainN]⟩
    · cases h
theorem spl_two {α : Type} {L : List α} {base : Nat} {x y z : α} {us vs : List α} (hx : L[base]? = some x) (h : base + 1 + us.length + vs.length ≤ L.length) (ha : 1 ≤ us.length) :
    spl (spl ((L.set (base + 1) y).set (base + 1 + us.length) z) (base + 1) us) (base + 1 + us.length) vs = (if vs = [] then spl (spl ((L.set (base + 1) y).set (base + 1 + us.length) z) (base + 1) us) (base + 1 + us.length) vs else spl L base (x :: (us ++ vs))) := by
  by_cases hb : vs = []
  · rw [if_pos hb]
  · rw [if_neg hb]
    have hbl : 1 ≤ vs.length := by cases vs with | nil => exact absurd rfl hb | cons => simp
    refine List.ext_getElem? fun i => ?_
    rw [spl_get (by rw [spl_len (by simp; omega)]; simp; omega), spl_get (by simp; omega), spl_get (L := L) (by simp; omega)]
    simp only [List.length_cons, List.length_append, List.getElem?_set, List.length_set]
    by_cases h1 : i < base
    · rw [if_pos (by omega), if_pos (by omega), if_neg (by omega), if_neg (by omega), if_pos h1]
    · by_cases h2 : i = base
      · subst h2
        rw [if_pos (by omega), if_pos (by omega), if_neg (by omega), if_neg (by omega), if_neg (by omega), if_pos (by omega), Nat.sub_self, hx]; rfl
      · by_cases h3 : i < base + 1 + us.length
        · rw [if_pos h3, if_neg (by omega), if_pos h3, if_neg h1, if_pos (by omega), show i - base = (i - (base + 1)) + 1 by omega, List.getElem?_cons_succ, List.getElem?_append_left (by omega)]
        · rw [if_neg h3]
          by_cases h4 : i < base + 1 + us.length + vs.length
          · rw [if_pos h4, if_neg h1, if_pos (by omega), show i - base = (i - (base + 1)) + 1 by omega, List.getElem?_cons_succ, List.getElem?_append_right (by omega)]
            congr 1
            omega
          · rw [if_neg h4, if_neg (by omega), if_neg h3, if_neg (by omega), if_neg (by omega), if_neg h1, if_neg (by omega)]
theorem goS_tree (hv : validB P = true) {N : Nat} : ∀ (m o : Nat) (st : List Int) (base : Nat) (out : List (List Int)) (kn : List Bool) (rest : List Nd), m = P.costs.length - o → o ≤ P.costs.length → st.length = P.costs.length → (∀ j, o ≤ j → j < P.costs.length → nth st j = -1) →
    out.length = N → kn.length = N → base + (treeF P f b m o st base).length ≤ N → kn[base]? = some true → out[base]? = some st → (∀ j, base < j → j < base + (treeF P f b m o st base).length → kn[j]? = some false) →
    goS P.costs.length P.rows.length N base out kn (treeF P f b m o st base ++ rest) = goS P.costs.length P.rows.length N (base + (treeF P f b m o st base).length) (spl out base (stsF P f b m o st)) (spl kn base (List.replicate (treeF P f b m o st base).length true)) rest := by
  intro m
  have leaf : ∀ (m o : Nat) (st : List Int) (base : Nat) (out : List (List Int)) (kn : List Bool) (rest : List Nd) (n : Nd), leafN P f b o st = some n → kn[base]? = some true → out[base]? = some st →
      goS P.costs.length P.rows.length N base out kn (treeF P f b m o st base ++ rest) = goS P.costs.length P.rows.length N (base + (treeF P f b m o st base).length) (spl out base (stsF P f b m o st)) (spl kn base (List.replicate (treeF P f b m o st base).length true)) rest := fun m o st base out kn rest n h hk ho => by
    have hl := leaf_ok h
    rw [tree_leaf h, sts_leaf h, spl_one ho]
    have e := step_leaf (c := P.costs.length) (rows := P.rows.length) (N := N) hk hl.1 (out := out)
    rw [if_pos hl.2] at e
    show goS _ _ _ base out kn (n :: rest) = goS _ _ _ (base + 1) out (spl kn base [true]) rest
    rw [go_some e, spl_one hk]
  induction m with
  | zero =>
    intro o st base out kn rest hm ho hsl hun hol hkl hN hk hout hkf
    obtain ⟨n, hn⟩ : ∃ n, leafN P f b o st = some n := by
      unfold leafN
      split
      · exact ⟨_, rfl⟩
      · rw [if_pos (.inl (by omega))]; exact ⟨_, rfl⟩
    exact leaf 0 o st base out kn rest n hn hk hout
  | succ m ih =>
    intro o st base out kn rest hm ho hsl hun hol hkl hN hk hout hkf
    cases hlf : leafN P f b o st with
    | some n => exact leaf (m + 1) o st base out kn rest n hlf hk hout
    | none =>
      have hto : o < P.costs.length := by omega
      obtain ⟨zt, hzt⟩ : ∃ l, l = treeF P f b m (o + 1) (st.set o 0) (base + 1) := ⟨_, rfl⟩
      obtain ⟨ot, hot⟩ : ∃ l, l = treeF P f b m (o + 1) (st.set o 1) (base + 1 + zt.length) := ⟨_, rfl⟩
      have htree : treeF P f b (m + 1) o st base = ⟨1, o, (base + 1 : Nat), (base + 1 + zt.length : Nat), 0, 0, 0⟩ :: (zt ++ ot) := by rw [treeF, hlf, hot, hzt]
      have hsts : stsF P f b (m + 1) o st = st :: (stsF P f b m (o + 1) (st.set o 0) ++ stsF P f b m (o + 1) (st.set o 1)) := by rw [stsF, hlf]
      have hz1 : 1 ≤ zt.length := by rw [hzt]; exact tree_pos
      have ho1 : 1 ≤ ot.length := by rw [hot]; exact tree_pos
      have hzs : (stsF P f b m (o + 1) (st.set o 0)).length = zt.length := by rw [hzt]; exact sts_len
      have hos : (stsF P f b m (o + 1) (st.set o 1)).length = ot.length := by rw [hot]; exact sts_len
      rw [htree] at hN hkf ⊢
      simp only [List.length_cons, List.length_append] at hN hkf ⊢
      have e := step_br (c := P.costs.length) (rows := P.rows.length) (N := N) (n := ⟨1, o, (base + 1 : Nat), (base + 1 + zt.length : Nat), 0, 0, 0⟩) hk rfl (out := out)
      have k1 := hkf (base + 1) (by omega) (by omega)
      have k2 := hkf (base + 1 + zt.length) (by omega) (by omega)
      rw [if_pos (by
        refine ⟨?_, ?_, ?_, ?_, ?_, ?_, ?_, ?_, ?_, ?_⟩
        · show (base : Int) < ((base + 1 : Nat) : Int); omega
        · show ((base + 1 : Nat) : Int) < N; omega
        · show (base : Int) < ((base + 1 + zt.length : Nat) : Int); omega
        · show ((base + 1 + zt.length : Nat) : Int) < N; omega
        · show ((base + 1 : Nat) : Int) ≠ ((base + 1 + zt.length : Nat) : Int); omega
        · show (0 : Int) ≤ (o : Int); omega
        · show (o : Int) < P.costs.length; omega
        · show kn.getD ((base + 1 : Nat) : Int).toNat false = false; rw [Int.toNat_natCast, getD_some k1]
        · show kn.getD ((base + 1 + zt.length : Nat) : Int).toNat false = false; rw [Int.toNat_natCast, getD_some k2]
        · show nth (out.getD base []) (o : Int).toNat = -1; rw [Int.toNat_natCast, getD_some hout]; exact hun o (Nat.le_refl _) hto)] at e
      simp only [Int.toNat_natCast, getD_some hout] at e
      rw [List.cons_append, go_some e, List.append_assoc]
      have hun' : ∀ x : Int, ∀ j, o + 1 ≤ j → j < P.costs.length → nth (st.set o x) j = -1 := fun x => un_set hun
      have i1 := ih (o + 1) (st.set o 0) (base + 1) ((out.set (base + 1) (st.set o 0)).set (base + 1 + zt.length) (st.set o 1)) ((kn.set (base + 1) true).set (base + 1 + zt.length) true) (ot ++ rest) (by omega) (by omega) (by simp; exact hsl) (hun' 0) (by simp; exact hol) (by simp; exact hkl) (by rw [← hzt]; omega)
        (by rw [List.getElem?_set_ne (by omega), List.getElem?_set_self (by omega)]) (by rw [List.getElem?_set_ne (by omega), List.getElem?_set_self (by omega)]) (fun j h1 h2 => by rw [← hzt] at h2; rw [List.getElem?_set_ne (by omega), List.getElem?_set_ne (by omega)]; exact hkf j (by omega) (by omega))
      rw [← hzt] at i1
      rw [i1]
      have L1 : ((out.set (base + 1) (st.set o 0)).set (base + 1 + zt.length) (st.set o 1)).length = N := by simp; exact hol
      have L2 : ((kn.set (base + 1) true).set (base + 1 + zt.length) true).length = N := by simp; exact hkl
      have i2 := ih (o + 1) (st.set o 1) (base + 1 + zt.length) (spl ((out.set (base + 1) (st.set o 0)).set (base + 1 + zt.length) (st.set o 1)) (base + 1) (stsF P f b m (o + 1) (st.set o 0))) (spl ((kn.set (base + 1) true).set (base + 1 + zt.length) true) (base + 1) (List.replicate zt.length true)) rest (by omega) (by omega) (by simp; exact hsl) (hun' 1)
        (by rw [spl_len (by rw [L1]; omega), L1]) (by rw [spl_len (by rw [L2]; simp; omega), L2]) (by rw [← hot]; omega)
        (by rw [spl_get (by rw [L2]; simp; omega), if_neg (by omega), if_neg (by simp), List.getElem?_set_self (by simp; omega)])
        (by rw [spl_get (by rw [L1]; omega), if_neg (by omega), if_neg (by omega), List.getElem?_set_self (by simp; omega)])
        (fun j h1 h2 => by
          rw [← hot] at h2
          rw [spl_get (by rw [L2]; simp; omega), if_neg (by omega), if_neg (by simp; omega), List.getElem?_set_ne (by omega), List.getElem?_set_ne (by omega)]
          exact hkf j (by omega) (by omega))
      rw [← hot] at i2
      rw [i2]
      have q1 := spl_two (L := out) (base := base) (x := st) (y := st.set o 0) (z := st.set o 1) (us := stsF P f b m (o + 1) (st.set o 0)) (vs := stsF P f b m (o + 1) (st.set o 1)) hout (by omega) (by omega)
      rw [if_neg (fun h => by rw [h] at hos; simp at hos; omega), hzs] at q1
      have q2 := spl_two (L := kn) (base := base) (x := true) (y := true) (z := true) (us := List.replicate zt.length true) (vs := List.replicate ot.length true) hk (by simp; omega) (by simp; omega)
      rw [if_neg (fun h => by have := congrArg List.length h; rw [List.length_replicate, List.length_nil] at this; omega)] at q2
      simp only [List.length_replicate] at q2
      rw [q1, q2, hsts]
      congr 1
      · omega
      · rw [List.replicate_succ, List.replicate_append_replicate]
def NodeP (P : Prog) (f : Bool) (b : Int) (n : Nd) (s : List Int) : Prop := n.kind = 1 ∨ (0 ≤ deadF P s ∧ n = ⟨2, 0, 0, 0, deadF P s, 0, 0⟩) ∨ (deadF P s < 0 ∧ n = plainN ∧ stOB s P.costs.length = true ∧ ((∀ x ∈ s, x ≠ -1) ∨ (f = true ∧ b ≤ boundF P s plainN)))
theorem leaf_P {o : Nat} {st : List Int} {n : Nd} (hst : stOB st P.costs.length = true) (hdec : ∀ j, j < o → nth st j ≠ -1) (h : leafN P f b o st = some n) : NodeP P f b n st := by
  unfold leafN at h
  split at h
  · next hd =>
    injection h with h
    exact .inr (.inl ⟨hd, h.symm⟩)
  · next hd =>
    split at h
    · next hor =>
      injection h with h
      refine .inr (.inr ⟨by omega, h.symm, hst, ?_⟩)
      rcases hor with ho | ho
      · left
        intro x hx
        obtain ⟨i, hi, e⟩ := mem_nth hx
        rw [← e]
        exact hdec i (by omega)
      · exact .inr ho
    · cases h
theorem tree_nodes : ∀ (m o : Nat) (st : List Int) (base : Nat), m = P.costs.length - o → o ≤ P.costs.length → stOB st P.costs.length = true → (∀ j, j < o → nth st j ≠ -1) → ∀ (j : Nat) s n, (stsF P f b m o st)[j]? = some s → (treeF P f b m o st base)[j]? = some n → NodeP P f b n s := by
  intro m
  have leaf : ∀ (m o : Nat) (st : List Int) (base : Nat) (n : Nd), stOB st P.costs.length = true → (∀ j, j < o → nth st j ≠ -1) → leafN P f b o st = some n → ∀ (j : Nat) s n', (stsF P f b m o st)[j]? = some s → (treeF P f b m o st base)[j]? = some n' → NodeP P f b n' s := fun m o st base n hst hdec h j s n' h1 h2 => by
    rw [sts_leaf h] at h1
    rw [tree_leaf h] at h2
    cases j with
    | zero =>
      simp at h1 h2
      subst h1 h2
      exact leaf_P hst hdec h
    | succ j => simp at h1
  induction m with
  | zero =>
    intro o st base hm ho hst hdec
    have hsl := st_len hst
    obtain ⟨n, hn⟩ : ∃ n, leafN P f b o st = some n := by
      unfold leafN
      split
      · exact ⟨_, rfl⟩
      · rw [if_pos (.inl (by omega))]; exact ⟨_, rfl⟩
    exact leaf 0 o st base n hst hdec hn
  | succ m ih =>
    intro o st base hm ho hst hdec
    cases hlf : leafN P f b o st with
    | some n => exact leaf (m + 1) o st base n hst hdec hlf
    | none =>
      have hsl := st_len hst
      have hd' : ∀ x : Int, x ≠ -1 → ∀ j, j < o + 1 → nth (st.set o x) j ≠ -1 := fun x hx j hj => by
        rw [nth_set]
        split
        · exact hx
        · exact hdec j (by omega)
      intro j s n h1 h2
      rw [stsF, hlf] at h1
      rw [treeF, hlf] at h2
      simp only at h1 h2
      cases j with
      | zero =>
        simp at h2
        subst h2
        exact .inl rfl
      | succ j =>
        rw [List.getElem?_cons_succ] at h1 h2
        have hzs : (stsF P f b m (o + 1) (st.set o 0)).length = (treeF P f b m (o + 1) (st.set o 0) (base + 1)).length := sts_len
        rcases Nat.lt_or_ge j (stsF P f b m (o + 1) (st.set o 0)).length with hj | hj
        · rw [List.getElem?_append_left hj] at h1
          rw [List.getElem?_append_left (by omega)] at h2
          exact ih (o + 1) (st.set o 0) (base + 1) (by omega) (by omega) (stO_set hst (by omega)) (hd' 0 (by omega)) j s n h1 h2
        · rw [List.getElem?_append_right hj, hzs] at h1
          rw [List.getElem?_append_right (by omega)] at h2
          exact ih (o + 1) (st.set o 1) _ (by omega) (by omega) (stO_set hst (by omega)) (hd' 1 (by omega)) _ s n h1 h2
theorem cert_len (hv : validB P = true) : (certF P f b).length ≤ 8191 := by
  have h1 : (certF P f b).length ≤ 2 ^ (P.costs.length + 1) - 1 := tree_len
  have h2 : 2 ^ (P.costs.length + 1) ≤ 2 ^ 13 := Nat.pow_le_pow_right (by omega) (by have := (validB_parts hv).1; omega)
  omega
theorem root_st : stOB (List.replicate P.costs.length (-1)) P.costs.length = true := by simp [stOB, tri9]
theorem cert_states (hv : validB P = true) : statesF P (certF P f b) = (some (stsF P f b P.costs.length 0 (List.replicate P.costs.length (-1))), 0) := by
  have h8 := cert_len (f := f) (b := b) hv
  have h0 : 1 ≤ (certF P f b).length := tree_pos
  have hz : (stsF P f b P.costs.length 0 (List.replicate P.costs.length (-1))).length = (certF P f b).length := sts_len
  have key := goS_tree (f := f) (b := b) hv (N := (certF P f b).length) P.costs.length 0 (List.replicate P.costs.length (-1)) 0 ((List.replicate (certF P f b).length []).set 0 (List.replicate P.costs.length (-1))) ((List.replicate (certF P f b).length false).set 0 true) [] (by omega) (by omega) (by simp) (fun j _ h => by simp [nth, List.getD_eq_getElem?_getD, h]) (by simp) (by simp) (by show 0 + (certF P f b).length ≤ _; omega)
    (by rw [List.getElem?_set_self (by simp; omega)]) (by rw [List.getElem?_set_self (by simp; omega)]) (fun j h1 h2 => by
      have h2' : j < 0 + (certF P f b).length := h2
      rw [List.getElem?_set_ne (by omega), List.getElem?_replicate, if_pos (by omega)])
  rw [List.append_nil] at key
  have key' : goS P.costs.length P.rows.length (certF P f b).length 0 ((List.replicate (certF P f b).length []).set 0 (List.replicate P.costs.length (-1))) ((List.replicate (certF P f b).length false).set 0 true) (certF P f b) = some (stsF P f b P.costs.length 0 (List.replicate P.costs.length (-1))) := by
    refine key.trans ?_
    rw [goS]
    congr 1
    rw [spl, List.take_zero, List.nil_append, List.drop_of_length_le (by simp; omega), List.append_nil]
  rw [statesF, if_neg (by rw [hv]; decide), if_neg (by omega), if_neg (by omega), key']
/-- The certificate of the cheapest choice is accepted. -/
theorem cert_check (hv : validB P = true) : checkF P ⟨(bestF P).1, (bestF P).2.2, (bestF P).2.1, certF P (bestF P).1 (bestF P).2.1⟩ = 0 := by
  have hb := best_is P
  obtain ⟨f, hf⟩ : ∃ f, f = (bestF P).1 := ⟨_, rfl⟩
  obtain ⟨b, hbb⟩ : ∃ b, b = (bestF P).2.1 := ⟨_, rfl⟩
  have hn := tree_nodes (P := P) (f := f) (b := b) P.costs.length 0 (List.replicate P.costs.length (-1)) 0 (by omega) (by omega) root_st (fun j h => by omega)
  have hp : provedF P (certF P f b) = goP P (stsF P f b P.costs.length 0 (List.replicate P.costs.length (-1))) (certF P f b) 0 false := by rw [provedF, cert_states hv]
  have h0 : (goP P (stsF P f b P.costs.length 0 (List.replicate P.costs.length (-1))) (certF P f b) 0 false).2.2 = 0 := goP_ok _ _ _ _ fun j s n h1 h2 h3 => by
    rcases hn j s n h1 h2 with h | ⟨h, rfl⟩ | ⟨_, rfl, _⟩
    · omega
    · exact (dead_row h).2
    · simp [plainN] at h3
  obtain ⟨v, hv1⟩ : ∃ v, v = (goP P (stsF P f b P.costs.length 0 (List.replicate P.costs.length (-1))) (certF P f b) 0 false).1 := ⟨_, rfl⟩
  obtain ⟨sm, hsm⟩ : ∃ v, v = (goP P (stsF P f b P.costs.length 0 (List.replicate P.costs.length (-1))) (certF P f b) 0 false).2.1 := ⟨_, rfl⟩
  have hgo : goP P (stsF P f b P.costs.length 0 (List.replicate P.costs.length (-1))) (certF P f b) 0 false = (v, sm, 0) := Prod.ext hv1.symm (Prod.ext hsm.symm h0)
  rw [hgo] at hp
  -- a leaf with a bound: its bound is at least the best cost, and there is a choice
  have hat : sm = true → f = true ∧ b ≤ v := fun e => by
    rw [e] at hgo
    rcases goP_at _ _ _ _ _ hgo with ⟨h, _⟩ | ⟨j, s, n, h1, h2, h3, h4⟩
    · cases h
    · rcases hn j s n h1 h2 with h | ⟨_, rfl⟩ | ⟨hd, rfl, hst, hor⟩
      · omega
      · simp at h3
      · rcases hor with hdec | ⟨h5, h6⟩
        · have hsl := st_len hst
          have htri := tri_all hst
          obtain ⟨t, ht, hbit⟩ := exists_bits (fun i => decide (nth s i = 1)) P.costs.length
          have hc : Compl s t := fun i hi => by
            rw [hbit i (by omega)]
            exact ⟨fun h => by simp [h], fun h => by simp [h]⟩
          have hfree : hasB s (-1) = false := by
            cases hh : hasB s (-1) with
            | false => rfl
            | true => exact absurd rfl (hdec _ (hasB_iff.1 hh))
          have hm := (decided_iff hsl htri hv (by rw [← stO_state (validB_parts hv).1]; exact hst) hfree hc).1 hd
          have hl := least_ok hv (sub_Asc t P.costs.length) hm
          have hbd := bound_decided hsl htri hdec hc
          have hcst : costF P (subTo t P.costs.length) = bitSum P.costs t P.costs.length := by
            rw [costF, if_pos (by simp only [costOk, hv, sub_choice, Bool.and_self]), sumOf_sub]
          refine ⟨hf.trans hl.1, ?_⟩
          rw [h4, show boundF P s plainN = bitSum P.costs t P.costs.length from hbd, ← hcst, hbb]
          exact hl.2.1
        · exact ⟨h5, by rw [h4]; exact h6⟩
  rw [← hf, ← hbb]
  cases hff : f with
  | false =>
    rw [hff] at hf hp hat
    have hnone := hb.none hf.symm
    have hsf : sm = false := by
      cases sm with
      | false => rfl
      | true => have := (hat rfl).1; cases this
    rw [hsf] at hp
    have hb0 : b = 0 := by rw [hbb, hnone.2]
    have hc0 : (bestF P).2.2 = [] := by rw [hnone.2]
    simp [checkF, hv, hp, hb0, hc0]
    rw [hb0] at hp
    simp [hp]
  | true =>
    rw [hff] at hf hp hat
    have hbm := best_meets hv hf.symm
    have hps := fun t hm => proved_sound hp (t := t) hm
    have hsm1 : sm = true := by
      obtain ⟨t, ht, hbit⟩ := exists_bits (fun i => hasB (bestF P).2.2 (i : Int)) P.costs.length
      have hsub : subTo t P.costs.length = (bestF P).2.2 := asc_ext (sub_Asc t P.costs.length) hbm.2.2 fun x => by
        rw [mem_sub]
        constructor
        · rintro ⟨i, h1, rfl, h3⟩
          rw [hbit i h1] at h3
          exact hasB_iff.1 h3
        · intro hx
          have hxr := hbm.2.2.2 x hx
          refine ⟨x.toNat, by omega, by omega, ?_⟩
          rw [hbit x.toNat (by omega)]
          exact hasB_iff.2 (by rw [show ((x.toNat : Nat) : Int) = x by omega]; exact hx)
      exact (hps t (by rw [hsub]; exact hbm.1)).1
    have hbv := (hat hsm1).2
    rw [hsm1] at hp
    simp only [checkF, hv, hp, hbm.1, hbm.2.1, ← hbb]
    simp
    omega
end
end Go.Proofs.Ytjbmdaoppiinbaa
end

/- Layer 10: the law AssemblySolves. -/
section
namespace Go.Proofs.Ytjbmdaoppiinbaa
set_option linter.unusedVariables false
set_option linter.unusedSimpArgs false
set_option linter.unnecessarySimpa false
set_option linter.unusedSectionVars false
set_option maxRecDepth 10000
open Go.RowKit
end Go.Proofs.Ytjbmdaoppiinbaa
end

/- Layer 10, plain: one row that asks for a number of options: the cheapest choice is that of the cheapest options. -/
section
namespace Go.Proofs.Ytjbmdaoppiinbaa
set_option linter.unusedVariables false
set_option linter.unusedSimpArgs false
set_option linter.unnecessarySimpa false
set_option linter.unusedSectionVars false
def iSum : Nat → (Nat → Int) → Int
  | 0, _ => 0
  | n + 1, f => iSum n f + f n
theorem iSum_le {f g : Nat → Int} : ∀ {n : Nat}, (∀ i, i < n → f i ≤ g i) → iSum n f ≤ iSum n g
  | 0, _ => Int.le_refl _
  | n + 1, h => by
    have h1 := iSum_le (n := n) fun i hi => h i (by omega)
    have h2 := h n (by omega)
    rw [iSum, iSum]; omega
theorem iSum_congr {f g : Nat → Int} : ∀ {n : Nat}, (∀ i, i < n → f i = g i) → iSum n f = iSum n g
  | 0, _ => rfl
  | n + 1, h => by rw [iSum, iSum, iSum_congr fun i hi => h i (by omega), h n (by omega)]
theorem iSum_add {f g : Nat → Int} : ∀ {n : Nat}, iSum n (fun i => f i + g i) = iSum n f + iSum n g
  | 0 => rfl
  | n + 1 => by rw [iSum, iSum, iSum, iSum_add]; omega
theorem iSum_mul {f : Nat → Int} {c : Int} : ∀ {n : Nat}, iSum n (fun i => c * f i) = c * iSum n f
  | 0 => by simp [iSum]
  | n + 1 => by rw [iSum, iSum, iSum_mul, Int.mul_add]
theorem iSum_upd {f g : Nat → Int} {i : Nat} : ∀ {n : Nat}, i < n → (∀ k, k < n → k ≠ i → g k = f k) → iSum n g = iSum n f + g i - f i
  | 0, h, _ => by omega
  | n + 1, h, he => by
    rw [iSum, iSum]
    by_cases e : i = n
    · subst e
      rw [iSum_congr (f := g) (g := f) fun k hk => he k (by omega) (by omega)]; omega
    · rw [iSum_upd (n := n) (f := f) (g := g) (i := i) (by omega) fun k hk => he k (by omega), he n (by omega) (by omega)]; omega
/-- The choice of the options that are marked. -/
def chU (u : Nat → Bool) : Nat → List Int
  | 0 => []
  | k + 1 => if u k = true then chU u k ++ [(k : Int)] else chU u k
def pickS (u : Nat → Bool) (c : Nat → Int) (i : Nat) : Int := if u i = true then c i else 0
theorem chU_asc {u : Nat → Bool} : ∀ {n : Nat}, Asc 0 n (chU u n)
  | 0 => ⟨List.Pairwise.nil, by simp [chU]⟩
  | n + 1 => by
    rw [chU]
    split
    · exact chU_asc.snoc (Nat.lt_succ_self n)
    · exact chU_asc.mono (Nat.le_succ n)
theorem chU_mem {u : Nat → Bool} {x : Int} : ∀ {n : Nat}, x ∈ chU u n ↔ ∃ i : Nat, i < n ∧ x = i ∧ u i = true
  | 0 => by simp [chU]
  | n + 1 => by
    rw [chU]
    constructor
    · intro h
      split at h
      · next hu =>
        rcases List.mem_append.1 h with h | h
        · obtain ⟨i, h1, h2, h3⟩ := chU_mem.1 h; exact ⟨i, by omega, h2, h3⟩
        · exact ⟨n, by omega, by simpa using h, hu⟩
      · obtain ⟨i, h1, h2, h3⟩ := chU_mem.1 h; exact ⟨i, by omega, h2, h3⟩
    · rintro ⟨i, h1, h2, h3⟩
      by_cases e : i = n
      · subst e; rw [if_pos h3]; simp [h2]
      · have := chU_mem.2 ⟨i, (by omega : i < n), h2, h3⟩
        split
        · simp [this]
        · exact this
theorem sum_chU {u : Nat → Bool} {vs : List Int} : ∀ {n : Nat}, sumOf vs (chU u n) = iSum n (pickS u fun i => nth vs i)
  | 0 => rfl
  | n + 1 => by
    rw [chU, iSum]
    split
    · next h => rw [sumOf_snoc, sum_chU, pickS, if_pos h]; simp
    · next h => rw [sum_chU, pickS, if_neg h]; simp
theorem asc_chU {n : Nat} {ch : List Int} (h : Asc 0 n ch) : ch = chU (fun i => decide ((i : Int) ∈ ch)) n := by
  induction n generalizing ch with
  | zero =>
    cases ch with
    | nil => rfl
    | cons x l => have := h.2 x (by simp); omega
  | succ n ih =>
    have hd := h.1
    by_cases e : (n : Int) ∈ ch
    · obtain ⟨a, b, rfl⟩ := List.append_of_mem e
      have hb : b = [] := by
        cases b with
        | nil => rfl
        | cons y b =>
          have h1 := (List.pairwise_append.1 hd).2.1
          have h2 := (List.pairwise_cons.1 h1).1 y (by simp)
          have h3 := h.2 y (by simp)
          omega
      subst hb
      have ha : Asc 0 n a := ⟨(List.pairwise_append.1 hd).1, fun x hx => by
        have h1 := (List.pairwise_append.1 hd).2.2 x hx n (by simp)
        have h2 := h.2 x (by simp [hx])
        omega⟩
      rw [chU, if_pos (by simp)]
      congr 1
      conv => lhs; rw [ih ha]
      clear ih
      have : ∀ k, k ≤ n → chU (fun i => decide ((i : Int) ∈ a)) k = chU (fun i => decide ((i : Int) ∈ a ++ [(n : Int)])) k := by
        intro k
        induction k with
        | zero => intro _; rfl
        | succ k ihk =>
          intro hk
          have e1 : decide ((k : Int) ∈ a ++ [(n : Int)]) = decide ((k : Int) ∈ a) := by
            have : (k : Int) ≠ n := by omega
            simp [this]
          rw [chU, chU, ihk (by omega)]
          simp only [e1]
      exact this n (Nat.le_refl _)
    · have ha : Asc 0 n ch := ⟨hd, fun x hx => by
        have h2 := h.2 x hx
        have h3 : x ≠ n := fun e' => e (e' ▸ hx)
        omega⟩
      rw [chU, if_neg (by simpa using e)]
      exact ih ha
/-- Marked options are no dearer than a bound, others no cheaper: then no choice with as many options is cheaper. -/
theorem greedy_le {n : Nat} {u v : Nat → Bool} {c : Nat → Int} {θ : Int} (h0 : 0 ≤ θ) (h1 : ∀ i, i < n → u i = true → c i ≤ θ) (h2 : ∀ i, i < n → u i = false → θ ≤ c i)
    (hl : iSum n (pickS u fun _ => 1) ≤ iSum n (pickS v fun _ => 1)) : iSum n (pickS u c) ≤ iSum n (pickS v c) := by
  have key : iSum n (fun i => pickS u c i + θ * pickS v (fun _ => 1) i) ≤ iSum n (fun i => pickS v c i + θ * pickS u (fun _ => 1) i) := iSum_le fun i hi => by
    have g1 := h1 i hi
    have g2 := h2 i hi
    simp only [pickS]
    cases hu : u i <;> cases hv : v i <;> simp [hu, hv] at g1 g2 ⊢ <;> omega
  rw [iSum_add, iSum_add, iSum_mul, iSum_mul] at key
  have := Int.mul_le_mul_of_nonneg_left hl h0
  omega
def wideP (cs : List Int) (lo hi : Int) : Prog := ⟨cs, [⟨List.replicate 12 1, lo, hi⟩]⟩
theorem wide_valid {cs : List Int} {lo hi : Int} (hl : cs.length = 12) (hc : ∀ c ∈ cs, 0 ≤ c ∧ c ≤ 39) (h1 : 0 ≤ lo ∧ lo ≤ 5) (h2 : 0 ≤ hi ∧ hi ≤ 12) : validB (wideP cs lo hi) = true := by
  have e1 : cs.all costB = true := List.all_eq_true.2 fun c hcc => by have := hc c hcc; simp [costB]; omega
  have e2 : rowB 12 ⟨List.replicate 12 1, lo, hi⟩ = true := by
    have : validCoefsB (List.replicate 12 1) = true := by decide
    unfold rowB boundB
    rw [this]
    simp only [List.length_replicate, decide_true, Bool.true_and, Bool.and_eq_true, decide_eq_true_eq]
    omega
  show (decide (cs.length ≤ 12) && decide (([⟨List.replicate 12 1, lo, hi⟩] : List Row).length ≤ 60) && cs.all costB && ([⟨List.replicate 12 1, lo, hi⟩] : List Row).all (rowB cs.length)) = true
  rw [hl, e1, List.all_cons, e2]
  rfl
theorem iSum_one {ch : List Int} (h : Asc 0 12 ch) : sumOf (List.replicate 12 1) ch = iSum 12 (pickS (fun i => decide ((i : Int) ∈ ch)) fun _ => 1) := by
  conv => lhs; rw [asc_chU h]
  rw [sum_chU]
  refine iSum_congr fun i hi => ?_
  have : nth (List.replicate 12 (1 : Int)) i = 1 := by
    unfold nth; rw [List.getD_eq_getElem?_getD, List.getElem?_replicate, if_pos hi]; rfl
  simp only [pickS, this]
theorem wide_met {cs : List Int} {lo hi : Int} {ch : List Int} : metB (wideP cs lo hi) ch = true ↔ lo ≤ sumOf (List.replicate 12 1) ch ∧ sumOf (List.replicate 12 1) ch ≤ hi := by
  show ([⟨List.replicate 12 1, lo, hi⟩] : List Row).all (meetB ch) = true ↔ _
  rw [List.all_cons, List.all_nil, Bool.and_true, meetB, Bool.and_eq_true, decide_eq_true_eq, decide_eq_true_eq]
theorem wide_none {cs : List Int} {lo hi : Int} (h : hi < lo) : bestF (wideP cs lo hi) = (false, 0, []) := by
  refine ((best_is (wideP cs lo hi)).none ?_).2
  cases e : (bestF (wideP cs lo hi)).1 with
  | false => rfl
  | true =>
    have h1 := (all_mem.1 ((best_is (wideP cs lo hi)).mem e).1).2
    have := wide_met.1 h1
    omega
theorem wide_some {cs : List Int} {lo hi : Int} {u : Nat → Bool} {θ : Int} (hl : cs.length = 12) (hlh : lo ≤ hi) (hu : iSum 12 (pickS u fun _ => 1) = lo) (h0 : 0 ≤ θ) (h1 : ∀ i, i < 12 → u i = true → nth cs i ≤ θ) (h2 : ∀ i, i < 12 → u i = false → θ ≤ nth cs i) :
    (bestF (wideP cs lo hi)).1 = true ∧ (bestF (wideP cs lo hi)).2.1 = iSum 12 (pickS u fun i => nth cs i) := by
  have hB := best_is (wideP cs lo hi)
  have e1 : ∀ i : Nat, i < 12 → decide ((i : Int) ∈ chU u 12) = u i := fun i hi => by
    cases e : u i with
    | true => simpa using chU_mem.2 ⟨i, hi, rfl, e⟩
    | false =>
      refine decide_eq_false fun hm => ?_
      obtain ⟨j, -, hj, hj2⟩ := chU_mem.1 hm
      have : j = i := by omega
      rw [this, e] at hj2; cases hj2
  have e2 : sumOf (List.replicate 12 1) (chU u 12) = lo := by
    rw [iSum_one chU_asc, ← hu]
    exact iSum_congr fun i hi => by simp only [pickS]; rw [e1 i hi]
  have hmem : chU u 12 ∈ allF (wideP cs lo hi) := all_mem.2 ⟨by rw [show (wideP cs lo hi).costs.length = 12 from hl]; exact chU_asc, wide_met.2 ⟨by omega, by omega⟩⟩
  have hf : (bestF (wideP cs lo hi)).1 = true := by
    cases e : (bestF (wideP cs lo hi)).1 with
    | true => rfl
    | false => rw [(hB.none e).1] at hmem; simp at hmem
  refine ⟨hf, ?_⟩
  have g1 := hB.least hf _ hmem
  obtain ⟨g2, g3⟩ := hB.mem hf
  have g4 : sumOf (wideP cs lo hi).costs (chU u 12) = iSum 12 (pickS u fun i => nth cs i) := sum_chU
  obtain ⟨k1, k2⟩ := all_mem.1 g2
  rw [show (wideP cs lo hi).costs.length = 12 from hl] at k1
  have k3' := (wide_met.1 k2).1
  rw [iSum_one k1] at k3'
  have k3 : iSum 12 (pickS u fun _ => 1) ≤ iSum 12 (pickS (fun i => decide ((i : Int) ∈ (bestF (wideP cs lo hi)).2.2)) fun _ => 1) := by rw [hu]; exact k3'
  have k4 := greedy_le (c := fun i => nth cs i) h0 h1 h2 k3
  have k5 : sumOf (wideP cs lo hi).costs (bestF (wideP cs lo hi)).2.2 = iSum 12 (pickS (fun i => decide ((i : Int) ∈ (bestF (wideP cs lo hi)).2.2)) fun i => nth cs i) := by
    show sumOf cs _ = _
    conv => lhs; rw [asc_chU k1]
    exact sum_chU
  omega
end Go.Proofs.Ytjbmdaoppiinbaa
end

/- Layer 10, plain: taking the cheapest unused option, one after the other. -/
section
namespace Go.Proofs.Ytjbmdaoppiinbaa
set_option linter.unusedVariables false
set_option linter.unusedSimpArgs false
def updT (u : Nat → Bool) (k : Nat) : Nat → Bool := fun j => bif Nat.beq j k then true else u j
theorem updT_same {u : Nat → Bool} {k : Nat} : updT u k k = true := by unfold updT; rw [Nat.beq_refl]; rfl
theorem updT_other {u : Nat → Bool} {k j : Nat} (h : j ≠ k) : updT u k j = u j := by
  have e : Nat.beq j k = false := Bool.eq_false_iff.2 fun g => h (Nat.eq_of_beq_eq_true g)
  unfold updT
  rw [e]; rfl
structure WInv (cs : List Int) (n : Nat) (u : Nat → Bool) : Prop where
  cnt : iSum 12 (pickS u fun _ => 1) = n
  th : ∃ θ : Int, 0 ≤ θ ∧ (∀ i, i < 12 → u i = true → nth cs i ≤ θ) ∧ ∀ i, i < 12 → u i = false → θ ≤ nth cs i
def BestB (cs : List Int) (u : Nat → Bool) (i : Nat) (b : Int) : Prop :=
  (b = -1 ∧ ∀ j, j < i → u j = true) ∨ ∃ k : Nat, b = k ∧ k < i ∧ u k = false ∧ ∀ j, j < i → u j = false → nth cs k ≤ nth cs j
theorem winv_zero {cs : List Int} (h : ∀ i, i < 12 → 0 ≤ nth cs i) : WInv cs 0 (fun _ => false) :=
  ⟨by decide, 0, Int.le_refl _, fun i _ g => absurd g (by simp), fun i hi _ => h i hi⟩
theorem pickS_upd {u : Nat → Bool} {k : Nat} {c : Nat → Int} (hk : k < 12) (hu : u k = false) : iSum 12 (pickS (updT u k) c) = iSum 12 (pickS u c) + c k := by
  rw [iSum_upd (f := pickS u c) (g := pickS (updT u k) c) hk fun j hj hjk => by unfold pickS; rw [updT_other hjk]]
  have e1 : pickS (updT u k) c k = c k := by unfold pickS; rw [updT_same]; rfl
  have e2 : pickS u c k = 0 := by unfold pickS; rw [hu]; rfl
  rw [e1, e2]; omega
theorem winv_next {cs : List Int} {n : Nat} {u : Nat → Bool} {k : Nat} (h : WInv cs n u) (hk : k < 12) (hu : u k = false) (hm : ∀ j, j < 12 → u j = false → nth cs k ≤ nth cs j) : WInv cs (n + 1) (updT u k) := by
  obtain ⟨θ, h0, h1, h2⟩ := h.th
  refine ⟨by rw [pickS_upd hk hu, h.cnt]; omega, nth cs k, by have := h2 k hk hu; omega, fun i hi hui => ?_, fun i hi hui => ?_⟩
  · by_cases e : i = k
    · subst e; exact Int.le_refl _
    · rw [updT_other e] at hui
      have := h1 i hi hui
      have := h2 k hk hu
      omega
  · by_cases e : i = k
    · subst e; rw [updT_same] at hui; cases hui
    · rw [updT_other e] at hui
      exact hm i hi hui
theorem best_used {cs : List Int} {u : Nat → Bool} {i : Nat} {b : Int} (h : BestB cs u i b) (hu : u i = true) : BestB cs u (i + 1) b := by
  rcases h with ⟨h1, h2⟩ | ⟨k, h1, h2, h3, h4⟩
  · refine .inl ⟨h1, fun j hj => ?_⟩
    rcases Nat.lt_or_ge j i with g | g
    · exact h2 j g
    · obtain rfl : j = i := by omega
      exact hu
  · refine .inr ⟨k, h1, by omega, h3, fun j hj hf => ?_⟩
    rcases Nat.lt_or_ge j i with g | g
    · exact h4 j g hf
    · obtain rfl : j = i := by omega
      rw [hu] at hf; cases hf
theorem best_first {cs : List Int} {u : Nat → Bool} {i : Nat} {b : Int} (h : BestB cs u i b) (hu : u i = false) (hb : b < 0) : BestB cs u (i + 1) i := by
  rcases h with ⟨h1, h2⟩ | ⟨k, h1, -⟩
  · refine .inr ⟨i, rfl, by omega, hu, fun j hj hf => ?_⟩
    rcases Nat.lt_or_ge j i with g | g
    · rw [h2 j g] at hf; cases hf
    · obtain rfl : j = i := by omega
      exact Int.le_refl _
  · omega
theorem best_take {cs : List Int} {u : Nat → Bool} {i : Nat} {b : Int} (h : BestB cs u i b) (hu : u i = false) (hb : ¬ b < 0) (hc : nth cs i < nth cs b.toNat) : BestB cs u (i + 1) i := by
  rcases h with ⟨h1, h2⟩ | ⟨k, h1, h2, h3, h4⟩
  · omega
  · subst h1
    rw [Int.toNat_natCast] at hc
    refine .inr ⟨i, rfl, by omega, hu, fun j hj hf => ?_⟩
    rcases Nat.lt_or_ge j i with g | g
    · have := h4 j g hf; omega
    · obtain rfl : j = i := by omega
      exact Int.le_refl _
theorem best_keep {cs : List Int} {u : Nat → Bool} {i : Nat} {b : Int} (h : BestB cs u i b) (hu : u i = false) (hb : ¬ b < 0) (hc : ¬ nth cs i < nth cs b.toNat) : BestB cs u (i + 1) b := by
  rcases h with ⟨h1, h2⟩ | ⟨k, h1, h2, h3, h4⟩
  · omega
  · subst h1
    rw [Int.toNat_natCast] at hc
    refine .inr ⟨k, rfl, by omega, h3, fun j hj hf => ?_⟩
    rcases Nat.lt_or_ge j i with g | g
    · exact h4 j g hf
    · obtain rfl : j = i := by omega
      omega
theorem iSum_all {u : Nat → Bool} : ∀ {n : Nat}, (∀ j, j < n → u j = true) → iSum n (pickS u fun _ => 1) = n
  | 0, _ => rfl
  | n + 1, h => by
    rw [iSum, iSum_all fun j hj => h j (by omega)]
    unfold pickS
    rw [h n (by omega)]; simp
theorem best_end {cs : List Int} {n : Nat} {u : Nat → Bool} {b : Int} (hw : WInv cs n u) (hn : n < 12) (h : BestB cs u 12 b) : ∃ k : Nat, b = k ∧ k < 12 ∧ u k = false ∧ ∀ j, j < 12 → u j = false → nth cs k ≤ nth cs j := by
  rcases h with ⟨h1, h2⟩ | ⟨k, h1, h2, h3, h4⟩
  · have := hw.cnt
    rw [iSum_all h2] at this; omega
  · exact ⟨k, h1, h2, h3, h4⟩
theorem best_range {cs : List Int} {u : Nat → Bool} {i : Nat} {b : Int} (h : BestB cs u i b) : -1 ≤ b ∧ b < i := by
  rcases h with ⟨h1, -⟩ | ⟨k, h1, h2, -⟩ <;> omega
end Go.Proofs.Ytjbmdaoppiinbaa
end

/- Layer 10: programs with as many options as there may be: the law AssemblyWide. -/
section
namespace Go.Proofs.Ytjbmdaoppiinbaa
set_option linter.unusedVariables false
set_option linter.unusedSimpArgs false
set_option linter.unnecessarySimpa false
set_option linter.unusedSectionVars false
set_option maxRecDepth 10000
open Go.RowKit
def costW (c : Nat → Int) (i : Nat) : Int := (c i).tmod 40
def costsW (c : Nat → Int) (k : Nat) : List Int := (List.range k).map (costW c)
def plX : Plan := (.take 0 (.take 1 (.take 2 (.take 3 (.take 4 (.take 5 (.take 6 .done)))))))
def plW : Plan := (.take 0 (.take 1 (.take 2 (.take 3 (.take 4 (.take 5 (.take 6 (.alt 7 (.alt 8 (.take 9 (.alt 10 .done .stop)) .stop) .stop))))))))
def plY : Plan := (.take 0 (.take 1 (.take 2 (.take 3 (.take 4 (.take 5 (.take 6 (.take 7 (.take 8 (.take 9 (.take 10 (.take 11 (.take 12 (.take 13 (.take 14 (.take 15 (.take 16 (.take 17 (.take 18 (.take 19 (.take 20 .done)))))))))))))))))))))
theorem brw_t {b : Bool} {A B : Prop} (h : b = true) (k : A) : branch b A B := branch_iff.2 ⟨fun _ => k, fun hf => absurd (hf.symm.trans h) Bool.noConfusion⟩
theorem brw_f {b : Bool} {A B : Prop} (h : b = false) (k : B) : branch b A B := branch_iff.2 ⟨fun ht => absurd (ht.symm.trans h) Bool.noConfusion, fun _ => k⟩
theorem pick_bound {cs : List Int} {u : Nat → Bool} (hl : cs.length = 12) (hc : ∀ x ∈ cs, 0 ≤ x ∧ x ≤ 39) : 0 ≤ iSum 12 (pickS u fun i => nth cs i) ∧ iSum 12 (pickS u fun i => nth cs i) ≤ 468 := by
  have hb : ∀ i, i < 12 → 0 ≤ pickS u (fun i => nth cs i) i ∧ pickS u (fun i => nth cs i) i ≤ 39 := fun i hi => by
    obtain ⟨x, hx⟩ : ∃ x, cs[i]? = some x := ⟨_, List.getElem?_eq_getElem (by omega)⟩
    have := hc x (List.mem_of_getElem? hx)
    have e : pickS u (fun i => nth cs i) i = if u i = true then x else 0 := by unfold pickS; simp only [nth_eq hx]
    rw [e]
    split <;> omega
  have h1 := iSum_le (n := 12) (f := fun _ => 0) fun i hi => (hb i hi).1
  have h2 := iSum_le (n := 12) (g := fun _ => 39) fun i hi => (hb i hi).2
  exact ⟨h1, h2⟩
set_option maxHeartbeats 8000000 in
theorem wide10_law (c : Nat → Int) (lo hi : Int) (hc : ∀ i, i < 12 → 0 ≤ c i ∧ c i ≤ 255) (hlo : 0 ≤ lo ∧ lo ≤ 255) (hhi : 0 ≤ hi ∧ hi ≤ 255) : Good Try.prog TT false 3 [.agg [.int .u8 (c 0), .int .u8 (c 1), .int .u8 (c 2), .int .u8 (c 3), .int .u8 (c 4), .int .u8 (c 5), .int .u8 (c 6), .int .u8 (c 7), .int .u8 (c 8), .int .u8 (c 9), .int .u8 (c 10), .int .u8 (c 11)], .int .u8 lo, .int .u8 hi] (· = .bool true) := by
  obtain ⟨L, hL⟩ : ∃ L, lo.tmod 6 = L := ⟨_, rfl⟩
  obtain ⟨H, hH⟩ : ∃ H, hi.tmod 13 = H := ⟨_, rfl⟩
  have hL0 := Int.tmod_nonneg (a := lo) (b := 6) hlo.1
  have hL1 := Int.tmod_lt_of_pos lo (show (0 : Int) < 6 by decide)
  have hH0 := Int.tmod_nonneg (a := hi) (b := 13) hhi.1
  have hH1 := Int.tmod_lt_of_pos hi (show (0 : Int) < 13 by decide)
  rw [hL] at hL0 hL1
  rw [hH] at hH0 hH1
  refine good_of mixed tabOk Try.func3 rfl rfl Try.ntmps3 Try.results3 rfl rfl ?_
  (conv => whnf); (repeat' (first | (refine arith_i ⟨by omega, by omega⟩ ?_; conv => whnf) | (refine arith_u ⟨by omega, by omega⟩ ?_; conv => whnf) | (refine arith_8 ⟨by omega, by omega⟩ ?_; conv => whnf) | (refine need_i (by first | omega | (simp only [List.length_cons, List.length_nil]; omega) | (simp only [List.length_append, List.length_cons, List.length_nil, List.length_map, List.length_replicate, List.length_modify]; omega)) ?_; conv => whnf) | ((with_reducible first | refine branch_tt ?_ | refine branch_ff ?_); conv => whnf) | (with_reducible refine branch_not ?_) | (((rw [hL]; refine arith_i ⟨by omega, by omega⟩ ?_)); conv => whnf) | (((rw [hH]; refine arith_i ⟨by omega, by omega⟩ ?_)); conv => whnf) | ((with_reducible first | refine slc_e ?_ | refine callS_a ?_ | refine bld_a ?_ | refine own_e ?_ | refine mkmap_b ?_); conv => whnf) | ((with_reducible first | refine branch_d (fun hq => ?_) (fun hq => ?_) | refine branch_e (fun hq => ?_) (fun hq => ?_) | refine branch_n (fun hq => ?_) (fun hq => ?_) | refine branch_i (fun hq => ?_) (fun hq => ?_)) <;> (try (exfalso; omega)) <;> (conv => whnf))))
  rw [hL, hH]
  have LC : ∀ j, ((costsW c j).map encI).length = j := fun j => by simp [costsW]
  have LR : ∀ j, ((List.replicate j (1 : Int)).map encI).length = j := fun j => by simp
  refine loop_i (fun i : Nat => i ≤ 12) (fun i => mkSt [(3, .ptr 3 0), (7, .ptr 7 0), (8, .ptr 8 0), (9, .int .i64 i)] [(3, [.int .u8 (c 0), .int .u8 (c 1), .int .u8 (c 2), .int .u8 (c 3), .int .u8 (c 4), .int .u8 (c 5), .int .u8 (c 6), .int .u8 (c 7), .int .u8 (c 8), .int .u8 (c 9), .int .u8 (c 10), .int .u8 (c 11)]), (7, [.own 100 3 1 ((costsW c i).map encI), .nil]), (8, [.own 101 3 1 ((List.replicate i 1).map encI), .int .i64 L, .int .i64 H])] false) (fun i => 12 - i) 0 (by decide) (Le.trans (le_adoptBox 7 0 100 3 1 rfl rfl) (Le.trans (le_adoptBox 8 0 101 3 1 rfl rfl) (le_mk ⟨rfl, rfl, rfl, rfl, trivial⟩ ⟨rfl, rfl, rfl, trivial⟩ rfl))) ?_
  intro i hi
  rcases Nat.lt_or_ge i 12 with hil | hil
  · have hci := hc i hil
    have LCi := LC i
    have LRi := LR i
    have ht0 := Int.tmod_nonneg (b := 40) hci.1
    have ht1 := Int.tmod_lt_of_pos (c i) (show (0 : Int) < 40 by decide)
    rcases (show i = 0 ∨ i = 1 ∨ i = 2 ∨ i = 3 ∨ i = 4 ∨ i = 5 ∨ i = 6 ∨ i = 7 ∨ i = 8 ∨ i = 9 ∨ i = 10 ∨ i = 11 by omega) with rfl | rfl | rfl | rfl | rfl | rfl | rfl | rfl | rfl | rfl | rfl | rfl
    all_goals
      (conv => whnf); (repeat' (first | (refine arith_i ⟨by omega, by omega⟩ ?_; conv => whnf) | (refine arith_u ⟨by omega, by omega⟩ ?_; conv => whnf) | (refine arith_8 ⟨by omega, by omega⟩ ?_; conv => whnf) | (refine need_i (by first | omega | (simp only [List.length_cons, List.length_nil]; omega) | (simp only [List.length_append, List.length_cons, List.length_nil, List.length_map, List.length_replicate, List.length_modify]; omega)) ?_; conv => whnf) | ((with_reducible first | refine branch_tt ?_ | refine branch_ff ?_); conv => whnf) | (with_reducible refine branch_not ?_) | ((refine draw_i 10 plW (by decide +kernel) ?_); conv => whnf) | ((((with_reducible refine And.intro ?_ ?_) <;> (conv => whnf))); conv => whnf) | (((with_reducible exact trivial)); conv => whnf) | ((refine aidx_i _ rfl (by decide) ?_); conv => whnf) | ((with_reducible first | refine slc_e ?_ | refine callS_a ?_ | refine bld_a ?_ | refine own_e ?_ | refine mkmap_b ?_); conv => whnf) | ((with_reducible first | refine branch_d (fun hq => ?_) (fun hq => ?_) | refine branch_e (fun hq => ?_) (fun hq => ?_) | refine branch_n (fun hq => ?_) (fun hq => ?_) | refine branch_i (fun hq => ?_) (fun hq => ?_)) <;> (try (exfalso; omega)) <;> (conv => whnf))))
      all_goals try exact trivial
      all_goals exact ⟨_ + 1, by omega, le_mk ⟨rfl, rfl, rfl, rfl, trivial⟩ ⟨rfl, rfl, rfl, trivial⟩ rfl, by omega⟩
  · obtain rfl : i = 12 := by omega
    have hcl : (costsW c 12).length = 12 := by simp [costsW]
    have hcb : ∀ x ∈ costsW c 12, 0 ≤ x ∧ x ≤ 39 := fun x hx => by
      obtain ⟨j, hj, rfl⟩ := List.mem_map.1 hx
      have hj := hc j (List.mem_range.1 hj)
      have := Int.tmod_nonneg (b := 40) hj.1
      have := Int.tmod_lt_of_pos (c j) (show (0 : Int) < 40 by decide)
      unfold costW; omega
    have LC := LC 12
    have LR := LR 12
    clear hi hil
    generalize costsW c 12 = cs at hcl hcb LC
    obtain ⟨P, hP⟩ : ∃ P, wideP cs L H = P := ⟨_, rfl⟩
    have hv : validB P = true := hP ▸ wide_valid hcl hcb ⟨hL0, by omega⟩ ⟨hH0, by omega⟩
    have hfit : Fits P := by
      subst hP
      exact ⟨by show cs.length ≤ _; omega, by show 1 ≤ 1000000; decide, fun r hr => by
        rw [show (wideP cs L H).rows = [⟨List.replicate 12 1, L, H⟩] from rfl, List.mem_singleton] at hr
        subst hr; show (List.replicate 12 (1 : Int)).length ≤ _; simp⟩
    have hsv : solveV P = .tup [planV ⟨(bestF P).1, (bestF P).2.2, (bestF P).2.1, certF P (bestF P).1 (bestF P).2.1⟩, .int .i64 0] := if_pos hv
    have hcN := cert_len (f := (bestF P).1) (b := (bestF P).2.1) hv
    have hbl := best_len hv
    have hck := cert_check hv
    have hSv : Good Try.prog TT false 4 [.agg [ints cs, .lst 3 [[ints (List.replicate 12 1), .int .i64 L, .int .i64 H]]]] (· = .tup [planV ⟨(bestF P).1, (bestF P).2.2, (bestF P).2.1, certF P (bestF P).1 (bestF P).2.1⟩, .int .i64 0]) := by
      have := (solve_ok P hfit).mono fun r h => h.trans hsv
      rw [← hP] at this ⊢
      exact this
    have hCk : Good Try.prog TT false 5 [.agg [ints cs, .lst 3 [[ints (List.replicate 12 1), .int .i64 L, .int .i64 H]]], planV ⟨(bestF P).1, (bestF P).2.2, (bestF P).2.1, certF P (bestF P).1 (bestF P).2.1⟩] (· = .int .i64 0) := by
      have := (check_ok P ⟨(bestF P).1, (bestF P).2.2, (bestF P).2.1, certF P (bestF P).1 (bestF P).2.1⟩ hfit (by show (certF P (bestF P).1 (bestF P).2.1).length ≤ _; omega) (by show (bestF P).2.2.length ≤ _; omega)).mono fun r h => h.trans (int_eq hck)
      rw [← hP] at this ⊢
      exact this
    generalize hpl : (bestF P).1 = fd at hSv hCk
    generalize hpc : (bestF P).2.1 = bc at hSv hCk
    generalize hps : (bestF P).2.2 = bs at hSv hCk
    generalize hpx : certF P fd bc = ce at hSv hCk
    clear hsv hck
    (conv => whnf); (repeat' (first | (refine arith_i ⟨by omega, by omega⟩ ?_; conv => whnf) | (refine arith_u ⟨by omega, by omega⟩ ?_; conv => whnf) | (refine arith_8 ⟨by omega, by omega⟩ ?_; conv => whnf) | (refine need_i (by first | omega | (simp only [List.length_cons, List.length_nil]; omega) | (simp only [List.length_append, List.length_cons, List.length_nil, List.length_map, List.length_replicate, List.length_modify]; omega)) ?_; conv => whnf) | ((with_reducible first | refine branch_tt ?_ | refine branch_ff ?_); conv => whnf) | (with_reducible refine branch_not ?_) | ((refine call_e hSv ?_); conv => whnf) | ((refine draw_i 7 plX (by decide +kernel) ?_); conv => whnf) | ((((with_reducible refine And.intro ?_ ?_) <;> (conv => whnf))); conv => whnf) | (((with_reducible exact trivial)); conv => whnf) | ((with_reducible first | refine slc_e ?_ | refine callS_a ?_ | refine bld_a ?_ | refine own_e ?_ | refine mkmap_b ?_); conv => whnf) | ((with_reducible first | refine branch_d (fun hq => ?_) (fun hq => ?_) | refine branch_e (fun hq => ?_) (fun hq => ?_) | refine branch_n (fun hq => ?_) (fun hq => ?_) | refine branch_i (fun hq => ?_) (fun hq => ?_)) <;> (try (exfalso; omega)) <;> (conv => whnf))))
    all_goals try exact trivial
    by_cases hLH : L ≤ H
    · have hnn : ∀ i, i < 12 → 0 ≤ nth cs i := fun i hi => by
        obtain ⟨x, hx⟩ : ∃ x, cs[i]? = some x := ⟨_, List.getElem?_eq_getElem (by omega)⟩
        rw [nth_eq hx]; exact (hcb x (List.mem_of_getElem? hx)).1
      refine loop_i2 (fun (n : Nat) (u : Nat → Bool) => (n : Int) ≤ L ∧ WInv cs n u) (fun n u => mkSt [(7, .ptr 7 0), (8, .ptr 8 0), (10, .ptr 10 0), (11, .int .i64 0), (12, .int .i64 (iSum 12 (pickS u fun i => nth cs i))), (13, .bool true), (14, .ptr 14 0), (15, .int .i64 n)] [(7, [ints cs, .lst 3 [[ints (List.replicate 12 1), .int .i64 L, .int .i64 H]]]), (8, [ints (List.replicate 12 1), .int .i64 L, .int .i64 H]), (10, [.bool fd, ints bs, .int .i64 bc, ndsV ce]), (14, [.bool (u 0), .bool (u 1), .bool (u 2), .bool (u 3), .bool (u 4), .bool (u 5), .bool (u 6), .bool (u 7), .bool (u 8), .bool (u 9), .bool (u 10), .bool (u 11)])] false) (fun n _ => L.toNat - n) 0 (fun _ => false) ⟨by omega, winv_zero hnn⟩ (le_mk ⟨rfl, rfl, rfl, rfl, rfl, bool_eq (decide_eq_true hLH), rfl, rfl, trivial⟩ ⟨rfl, rfl, rfl, rfl, trivial⟩ rfl) ?_
      rintro n u ⟨hn, hw⟩
      rcases Int.lt_or_le n L with hnl | hnl
      · (conv => whnf); (repeat' (first | (refine arith_i ⟨by omega, by omega⟩ ?_; conv => whnf) | (refine arith_u ⟨by omega, by omega⟩ ?_; conv => whnf) | (refine arith_8 ⟨by omega, by omega⟩ ?_; conv => whnf) | (refine need_i (by first | omega | (simp only [List.length_cons, List.length_nil]; omega) | (simp only [List.length_append, List.length_cons, List.length_nil, List.length_map, List.length_replicate, List.length_modify]; omega)) ?_; conv => whnf) | ((with_reducible first | refine branch_tt ?_ | refine branch_ff ?_); conv => whnf) | (with_reducible refine branch_not ?_) | ((with_reducible first | refine slc_e ?_ | refine callS_a ?_ | refine bld_a ?_ | refine own_e ?_ | refine mkmap_b ?_); conv => whnf) | ((with_reducible first | refine branch_d (fun hq => ?_) (fun hq => ?_) | refine branch_e (fun hq => ?_) (fun hq => ?_) | refine branch_n (fun hq => ?_) (fun hq => ?_) | refine branch_i (fun hq => ?_) (fun hq => ?_)) <;> (try (exfalso; omega)) <;> (conv => whnf))))
        refine loop_i2 (fun (i : Nat) (b : Int) => i ≤ 12 ∧ BestB cs u i b) (fun i b => mkSt [(7, .ptr 7 0), (8, .ptr 8 0), (10, .ptr 10 0), (11, .int .i64 0), (12, .int .i64 (iSum 12 (pickS u fun i => nth cs i))), (13, .bool true), (14, .ptr 14 0), (15, .int .i64 n), (16, .int .i64 b), (17, .int .i64 i)] [(7, [ints cs, .lst 3 [[ints (List.replicate 12 1), .int .i64 L, .int .i64 H]]]), (8, [ints (List.replicate 12 1), .int .i64 L, .int .i64 H]), (10, [.bool fd, ints bs, .int .i64 bc, ndsV ce]), (14, [.bool (u 0), .bool (u 1), .bool (u 2), .bool (u 3), .bool (u 4), .bool (u 5), .bool (u 6), .bool (u 7), .bool (u 8), .bool (u 9), .bool (u 10), .bool (u 11)])] false) (fun i _ => 12 - i) 0 (-1) ⟨by omega, .inl ⟨rfl, fun j hj => by omega⟩⟩ (le_mk ⟨rfl, rfl, rfl, rfl, rfl, rfl, rfl, rfl, rfl, rfl, trivial⟩ ⟨rfl, rfl, rfl, rfl, trivial⟩ rfl) ?_
        rintro i b ⟨hi, hB⟩
        have hbr := best_range hB
        rcases Nat.lt_or_ge i 12 with hil | hil
        · obtain ⟨x, hx⟩ : ∃ x, cs[i]? = some x := ⟨_, List.getElem?_eq_getElem (by omega)⟩
          rcases Bool.eq_false_or_eq_true (u i) with hui | hui
          · rcases (show i = 0 ∨ i = 1 ∨ i = 2 ∨ i = 3 ∨ i = 4 ∨ i = 5 ∨ i = 6 ∨ i = 7 ∨ i = 8 ∨ i = 9 ∨ i = 10 ∨ i = 11 by omega) with rfl | rfl | rfl | rfl | rfl | rfl | rfl | rfl | rfl | rfl | rfl | rfl
            all_goals
              (conv => whnf); (repeat' (first | (refine arith_i ⟨by omega, by omega⟩ ?_; conv => whnf) | (refine arith_u ⟨by omega, by omega⟩ ?_; conv => whnf) | (refine arith_8 ⟨by omega, by omega⟩ ?_; conv => whnf) | (refine need_i (by first | omega | (simp only [List.length_cons, List.length_nil]; omega) | (simp only [List.length_append, List.length_cons, List.length_nil, List.length_map, List.length_replicate, List.length_modify]; omega)) ?_; conv => whnf) | ((with_reducible first | refine branch_tt ?_ | refine branch_ff ?_); conv => whnf) | (with_reducible refine branch_not ?_) | (((with_reducible refine brw_t hui ?_)); conv => whnf) | ((refine draw_i 21 plY (by decide +kernel) ?_); conv => whnf) | ((((with_reducible refine And.intro ?_ ?_) <;> (conv => whnf))); conv => whnf) | (((with_reducible exact trivial)); conv => whnf) | ((refine aidx_i _ rfl (by decide) ?_); conv => whnf) | ((refine idx_cs hx ?_); conv => whnf) | ((with_reducible first | refine slc_e ?_ | refine callS_a ?_ | refine bld_a ?_ | refine own_e ?_ | refine mkmap_b ?_); conv => whnf) | ((with_reducible first | refine branch_d (fun hq => ?_) (fun hq => ?_) | refine branch_e (fun hq => ?_) (fun hq => ?_) | refine branch_n (fun hq => ?_) (fun hq => ?_) | refine branch_i (fun hq => ?_) (fun hq => ?_)) <;> (try (exfalso; omega)) <;> (conv => whnf))))
              all_goals try exact trivial
              all_goals exact ⟨_ + 1, b, ⟨by omega, best_used hB hui⟩, le_mk ⟨rfl, rfl, rfl, rfl, rfl, rfl, rfl, rfl, rfl, rfl, trivial⟩ ⟨rfl, rfl, rfl, rfl, trivial⟩ rfl, by omega⟩
          · rcases (show i = 0 ∨ i = 1 ∨ i = 2 ∨ i = 3 ∨ i = 4 ∨ i = 5 ∨ i = 6 ∨ i = 7 ∨ i = 8 ∨ i = 9 ∨ i = 10 ∨ i = 11 by omega) with rfl | rfl | rfl | rfl | rfl | rfl | rfl | rfl | rfl | rfl | rfl | rfl
            all_goals
              (conv => whnf); (repeat' (first | (refine arith_i ⟨by omega, by omega⟩ ?_; conv => whnf) | (refine arith_u ⟨by omega, by omega⟩ ?_; conv => whnf) | (refine arith_8 ⟨by omega, by omega⟩ ?_; conv => whnf) | (refine need_i (by first | omega | (simp only [List.length_cons, List.length_nil]; omega) | (simp only [List.length_append, List.length_cons, List.length_nil, List.length_map, List.length_replicate, List.length_modify]; omega)) ?_; conv => whnf) | ((with_reducible first | refine branch_tt ?_ | refine branch_ff ?_); conv => whnf) | (with_reducible refine branch_not ?_) | (((with_reducible refine brw_f hui ?_)); conv => whnf) | ((refine draw_i 21 plY (by decide +kernel) ?_); conv => whnf) | ((((with_reducible refine And.intro ?_ ?_) <;> (conv => whnf))); conv => whnf) | (((with_reducible exact trivial)); conv => whnf) | ((refine aidx_i _ rfl (by decide) ?_); conv => whnf) | ((refine idx_cs hx ?_); conv => whnf) | (((refine idx_m (xs := cs) (by omega) (by omega) fun y hy => ?_)); conv => whnf) | ((with_reducible first | refine slc_e ?_ | refine callS_a ?_ | refine bld_a ?_ | refine own_e ?_ | refine mkmap_b ?_); conv => whnf) | ((with_reducible first | refine branch_d (fun hq => ?_) (fun hq => ?_) | refine branch_e (fun hq => ?_) (fun hq => ?_) | refine branch_n (fun hq => ?_) (fun hq => ?_) | refine branch_i (fun hq => ?_) (fun hq => ?_)) <;> (try (exfalso; omega)) <;> (conv => whnf))))
              all_goals try exact trivial
              all_goals first
                | (have h1 : b < 0 := by omega
                   exact ⟨_ + 1, _, ⟨by omega, best_first hB hui h1⟩, le_mk ⟨rfl, rfl, rfl, rfl, rfl, rfl, rfl, rfl, rfl, rfl, trivial⟩ ⟨rfl, rfl, rfl, rfl, trivial⟩ rfl, by omega⟩)
                | (have h1 : ¬ b < 0 := by omega
                   have h2 : x < y := by omega
                   exact ⟨_ + 1, _, ⟨by omega, best_take hB hui h1 (by rw [nth_eq hx, nth_eq hy]; exact h2)⟩, le_mk ⟨rfl, rfl, rfl, rfl, rfl, rfl, rfl, rfl, rfl, rfl, trivial⟩ ⟨rfl, rfl, rfl, rfl, trivial⟩ rfl, by omega⟩)
                | (have h1 : ¬ b < 0 := by omega
                   have h2 : ¬ x < y := by omega
                   exact ⟨_ + 1, b, ⟨by omega, best_keep hB hui h1 (by rw [nth_eq hx, nth_eq hy]; exact h2)⟩, le_mk ⟨rfl, rfl, rfl, rfl, rfl, rfl, rfl, rfl, rfl, rfl, trivial⟩ ⟨rfl, rfl, rfl, rfl, trivial⟩ rfl, by omega⟩)
        · obtain rfl : i = 12 := by omega
          obtain ⟨k, rfl, hk, hu, hmin⟩ := best_end hw (by omega) hB
          have hpb := pick_bound (u := u) hcl hcb
          obtain ⟨x, hx⟩ : ∃ x, cs[k]? = some x := ⟨_, List.getElem?_eq_getElem (by omega)⟩
          have hxb := hcb x (List.mem_of_getElem? hx)
          have hsum : iSum 12 (pickS (updT u k) fun i => nth cs i) = iSum 12 (pickS u fun i => nth cs i) + x := by
            rw [pickS_upd hk hu]; show _ + nth cs k = _; rw [nth_eq hx]
          have hwn := winv_next hw hk hu hmin
          rcases (show k = 0 ∨ k = 1 ∨ k = 2 ∨ k = 3 ∨ k = 4 ∨ k = 5 ∨ k = 6 ∨ k = 7 ∨ k = 8 ∨ k = 9 ∨ k = 10 ∨ k = 11 by omega) with rfl | rfl | rfl | rfl | rfl | rfl | rfl | rfl | rfl | rfl | rfl | rfl
          all_goals
            (conv => whnf); (repeat' (first | (refine arith_i ⟨by omega, by omega⟩ ?_; conv => whnf) | (refine arith_u ⟨by omega, by omega⟩ ?_; conv => whnf) | (refine arith_8 ⟨by omega, by omega⟩ ?_; conv => whnf) | (refine need_i (by first | omega | (simp only [List.length_cons, List.length_nil]; omega) | (simp only [List.length_append, List.length_cons, List.length_nil, List.length_map, List.length_replicate, List.length_modify]; omega)) ?_; conv => whnf) | ((with_reducible first | refine branch_tt ?_ | refine branch_ff ?_); conv => whnf) | (with_reducible refine branch_not ?_) | ((refine aidx_i _ rfl (by decide) ?_); conv => whnf) | ((refine idx_cs hx ?_); conv => whnf) | ((with_reducible first | refine slc_e ?_ | refine callS_a ?_ | refine bld_a ?_ | refine own_e ?_ | refine mkmap_b ?_); conv => whnf) | ((with_reducible first | refine branch_d (fun hq => ?_) (fun hq => ?_) | refine branch_e (fun hq => ?_) (fun hq => ?_) | refine branch_n (fun hq => ?_) (fun hq => ?_) | refine branch_i (fun hq => ?_) (fun hq => ?_)) <;> (try (exfalso; omega)) <;> (conv => whnf))))
            exact ⟨n + 1, updT u _, ⟨by omega, hwn⟩, le_mk ⟨rfl, rfl, rfl, rfl, int_eq hsum.symm, rfl, rfl, rfl, trivial⟩ ⟨rfl, rfl, rfl, rfl, trivial⟩ rfl, by omega⟩
      · have hLn : (n : Int) = L := by omega
        have hres : fd = true ∧ bc = iSum 12 (pickS u fun i => nth cs i) := by
          obtain ⟨θ, h0, h1, h2⟩ := hw.th
          have := wide_some (hi := H) hcl hLH (hLn ▸ hw.cnt) h0 h1 h2
          rw [hP, hpl, hpc] at this
          exact this
        obtain ⟨rfl, hbc⟩ := hres
        (conv => whnf); (repeat' (first | (refine arith_i ⟨by omega, by omega⟩ ?_; conv => whnf) | (refine arith_u ⟨by omega, by omega⟩ ?_; conv => whnf) | (refine arith_8 ⟨by omega, by omega⟩ ?_; conv => whnf) | (refine need_i (by first | omega | (simp only [List.length_cons, List.length_nil]; omega) | (simp only [List.length_append, List.length_cons, List.length_nil, List.length_map, List.length_replicate, List.length_modify]; omega)) ?_; conv => whnf) | ((with_reducible first | refine branch_tt ?_ | refine branch_ff ?_); conv => whnf) | (with_reducible refine branch_not ?_) | ((refine call_e hCk ?_); conv => whnf) | ((refine call_e awake10_ok ?_); conv => whnf) | ((with_reducible first | refine slc_e ?_ | refine callS_a ?_ | refine bld_a ?_ | refine own_e ?_ | refine mkmap_b ?_); conv => whnf) | ((with_reducible first | refine branch_d (fun hq => ?_) (fun hq => ?_) | refine branch_e (fun hq => ?_) (fun hq => ?_) | refine branch_n (fun hq => ?_) (fun hq => ?_) | refine branch_i (fun hq => ?_) (fun hq => ?_)) <;> (try (exfalso; omega)) <;> (conv => whnf))))
        · exact ret_p rfl rfl
        all_goals (exfalso; simp at hq; done)
    · refine loop_i (fun n : Nat => n = 0) (fun n => mkSt [(7, .ptr 7 0), (8, .ptr 8 0), (10, .ptr 10 0), (11, .int .i64 0), (12, .int .i64 0), (13, .bool false), (14, .ptr 14 0), (15, .int .i64 n)] [(7, [ints cs, .lst 3 [[ints (List.replicate 12 1), .int .i64 L, .int .i64 H]]]), (8, [ints (List.replicate 12 1), .int .i64 L, .int .i64 H]), (10, [.bool fd, ints bs, .int .i64 bc, ndsV ce])] false) (fun n => n) 0 rfl (le_mk ⟨rfl, rfl, rfl, rfl, rfl, bool_eq (decide_eq_false hLH), rfl, rfl, trivial⟩ ⟨rfl, rfl, rfl, trivial⟩ rfl) ?_
      rintro n rfl
      have hres : fd = false ∧ bc = 0 := by
        have := wide_none (cs := cs) (lo := L) (hi := H) (by omega)
        rw [hP] at this
        rw [this] at hpl hpc
        exact ⟨hpl.symm, hpc.symm⟩
      obtain ⟨rfl, hbc⟩ := hres
      (conv => whnf); (repeat' (first | (refine arith_i ⟨by omega, by omega⟩ ?_; conv => whnf) | (refine arith_u ⟨by omega, by omega⟩ ?_; conv => whnf) | (refine arith_8 ⟨by omega, by omega⟩ ?_; conv => whnf) | (refine need_i (by first | omega | (simp only [List.length_cons, List.length_nil]; omega) | (simp only [List.length_append, List.length_cons, List.length_nil, List.length_map, List.length_replicate, List.length_modify]; omega)) ?_; conv => whnf) | ((with_reducible first | refine branch_tt ?_ | refine branch_ff ?_); conv => whnf) | (with_reducible refine branch_not ?_) | ((refine call_e hCk ?_); conv => whnf) | ((refine call_e awake10_ok ?_); conv => whnf) | ((with_reducible first | refine slc_e ?_ | refine callS_a ?_ | refine bld_a ?_ | refine own_e ?_ | refine mkmap_b ?_); conv => whnf) | ((with_reducible first | refine branch_d (fun hq => ?_) (fun hq => ?_) | refine branch_e (fun hq => ?_) (fun hq => ?_) | refine branch_n (fun hq => ?_) (fun hq => ?_) | refine branch_i (fun hq => ?_) (fun hq => ?_)) <;> (try (exfalso; omega)) <;> (conv => whnf))))
      · exact ret_p rfl rfl
      all_goals (exfalso; simp at hq; done)
end Go.Proofs.Ytjbmdaoppiinbaa
end

/- From a contract of the interpreter to a law's call: arrays of numbers. -/
section
namespace Go.Proofs.Ytjbmdaoppiinbaa
set_option linter.unusedVariables false
set_option linter.unusedSimpArgs false
set_option linter.unnecessarySimpa false
set_option linter.unusedSectionVars false
open Go.RowKit Go.ChangeShapes Go.WideShapes
/-- As 'law_all', where arguments may be arrays or structs. -/
theorem law_agg {f : Nat} {args : List AV} (hG : Good Try.prog TT false f args (· = .bool true)) {w : World} {us : List Value} (h : All2 (fun v u => RepV w No v u ∨ ∃ cs us', v = .agg cs ∧ u = .agg us'.toArray ∧ All2 (RepV w No) cs us') args us) :
    Calls Try.prog f us.toArray w (fun e w' => e = .returned (.bool true) ∧ Chg No w w') := by
  have hx : ∀ b, GX (G0 none No (none, 0, 0)) b → False := fun b hb => by rcases hb with hb | hb <;> simp_all [GM, G0, No]
  have hm : ∀ (B : Nat) v u, RepV w No v u → RC B (G0 none No (none, 0, 0)) w v u := fun B v u hr => RepV.rc (RepV.move hr (fun _ _ _ => rfl) fun b _ hb => (hx b hb).elim)
  have hr2 : ∀ (B : Nat) v u, (RepV w No v u ∨ ∃ cs us', v = .agg cs ∧ u = .agg us'.toArray ∧ All2 (RepV w No) cs us') → RA B (G0 none No (none, 0, 0)) w v u := fun B v u hr => by
    rcases hr with hr | ⟨cs, us', rfl, rfl, hr⟩
    · exact RC.ra (hm B _ _ hr)
    · exact ⟨us', rfl, hr.mono (hm B)⟩
  refine Calls.mono (hG.2 w No none us (none, 0, 0) (fun b hb => absurd hb no_) rfl (h.mono fun v u hr => hr2 _ v u hr) nofun) ?_
  rintro e w' ⟨u, r, rfl, rfl, hr, hc, -⟩
  have hu : RepV w' (GX (G0 none No (none, 0, 0))) (.bool true) u := hr
  cases hu
  exact ⟨rfl, hc.mono fun b _ hb => by cases hb⟩
theorem nums_agg {w : World} {q : IntKind} : ∀ {zs : List Int}, All2 (RepV w No) (zs.map (AV.int q)) (zs.map (Value.int q))
  | [] => trivial
  | z :: zs => ⟨.int _ _, nums_agg⟩
theorem arr12 {q : IntKind} {z : List Int} (h : z.length = 12) : z.map (AV.int q) = [.int q (nth z 0), .int q (nth z 1), .int q (nth z 2), .int q (nth z 3), .int q (nth z 4), .int q (nth z 5), .int q (nth z 6), .int q (nth z 7), .int q (nth z 8), .int q (nth z 9), .int q (nth z 10), .int q (nth z 11)] := by
  match z, h with
  | [_, _, _, _, _, _, _, _, _, _, _, _], _ => rfl
theorem arr12_in {z : List Int} (h : z.length = 12 ∧ ∀ x ∈ z, (Lit.int .u8 x).wf = true) : ∀ i, i < 12 → 0 ≤ nth z i ∧ nth z i ≤ 255 := fun i hi => by
  obtain ⟨x, hx⟩ : ∃ x, z[i]? = some x := ⟨_, List.getElem?_eq_getElem (by omega)⟩
  have := h.2 x (List.mem_of_getElem? hx)
  simp [Lit.wf, IntKind.min, IntKind.max, IntKind.bits, IntKind.signed] at this
  have e : nth z i = x := by simp [nth, List.getD_eq_getElem?_getD, hx]
  rw [e]; omega
theorem u8_in {a : Int} (h : (Lit.int .u8 a).wf = true) : 0 ≤ a ∧ a ≤ 255 := by
  simp [Lit.wf, IntKind.min, IntKind.max, IntKind.bits, IntKind.signed] at h
  omega
section
variable {H : Type} {enc : TypeId × Value → H} {P : Program} {w : World} {base : Nat} {spare : Nat → Bool} {held : Bool}
/-- An argument that is an array of numbers. -/
theorem open_nums {t e : TypeId} {n : Nat} {q : IntKind} (ht : P.underlying t = some (.array n e)) (he : P.underlying e = some (.int q)) (h1 : P.cellsOf e = 1) (hct : P.cellsOf t = n) {v : Value} {r : Reach} {b0 : Nat} (hv : Value.okWide P w r b0 t v) {d : DataW H} {ps : List MemPlace}
    (hd : DataW.Trod enc P w base spare held t v d ps) : ∃ zs : List Int, zs.length = n ∧ v = .agg (zs.map (Value.int q)).toArray ∧ ∀ z ∈ zs, (Lit.int q z).wf = true := by
  simp only [Value.okWide, ht] at hv
  obtain ⟨cs, rfl, h2, -⟩ := hv
  rw [hct] at h2
  obtain ⟨fuel, hf⟩ := hd
  obtain ⟨xs, m, -, -, hl, hxl, hat⟩ := DataW.trod_array ht hf
  have hcells : (Value.cells (.agg cs)).toList = cs.toList := rfl
  rw [hcells] at hat hl
  have key : ∀ i, i < n → ∃ z : Int, cs.toList[i]? = some (.int q z) ∧ (Lit.int q z).wf = true := fun i hi => by
    have h3 := hat i hi
    have hil : i < cs.toList.length := by rw [Array.length_toList]; omega
    have hone : (cs.toList.drop i).take 1 = [cs.toList[i]] := by
      rw [List.drop_eq_getElem_cons hil]; rfl
    rw [h1, Nat.mul_one, hone, List.getElem?_eq_getElem (by omega)] at h3
    obtain ⟨z, hz, -, hw⟩ := DataW.trod_int he h3
    exact ⟨z, by rw [List.getElem?_eq_getElem hil]; simpa using hz, hw⟩
  refine ⟨(List.range n).map fun i => if hi : i < n then Classical.choose (key i hi) else 0, by simp, ?_, fun z hz => ?_⟩
  · refine congrArg Value.agg ((Array.toArray_toList (xs := cs)).symm.trans (congrArg List.toArray ?_))
    refine List.ext_getElem? fun i => ?_
    rw [List.getElem?_map, List.getElem?_map]
    rcases Nat.lt_or_ge i n with hi | hi
    · rw [List.getElem?_range hi, (Classical.choose_spec (key i hi)).1]
      simp only [Option.map_some]
      rw [dif_pos hi]
    · rw [List.getElem?_eq_none (by rw [Array.length_toList]; omega), List.getElem?_eq_none (by simpa using hi)]; rfl
  · obtain ⟨i, hi, rfl⟩ := List.mem_map.1 hz
    have hi' := List.mem_range.1 hi
    rw [dif_pos hi']
    exact (Classical.choose_spec (key i hi')).2
end
end Go.Proofs.Ytjbmdaoppiinbaa
end
