/- Layer 10: the reference's All; the law AssemblyAll. -/
import Derived.Test.YtlenfbnoobpdaaaGL10f
import Derived.Test.YtlenfbnoobpdaaaGL09f
namespace Go.Proofs.Ytlenfbnoobpdaaa
set_option linter.unusedVariables false
set_option linter.unusedSimpArgs false
set_option linter.unnecessarySimpa false
set_option linter.unusedSectionVars false
set_option maxRecDepth 10000
open Go.RowKit
theorem all_form (P : Prog) : ∃ la ea, allV P = .tup [.lst 1 (List.map encS la), .int .i64 ea] ∧ (la.length ≤ 4096 ∧ ∀ c ∈ la, c.length ≤ 1000) := by
  unfold allV
  split
  · next hv =>
    refine ⟨allF P, 0, rfl, all_count hv, fun c hc => ?_⟩
    have h1 := asc_len (all_mem.1 hc).1
    have h2 := (validB_parts hv).1
    omega
  · exact ⟨[], 1, rfl, by simp, by simp⟩
set_option maxHeartbeats 4000000 in
theorem below_ok (P : Prog) (hv : validB P = true) : ∀ (m : Nat) (ch : List Int) (i : Nat), m = P.costs.length - i → i ≤ P.costs.length → Asc 0 i ch → Good Try.prog TT false 100 [progV P, ints ch, .int .i64 i] (· = .lst 1 ((visF P ch i).map encS)) := by
  have hfit := fits_of hv
  have hcl := (validB_parts hv).1
  have LP : (P.costs.map encI).length = P.costs.length := List.length_map ..
  intro m
  induction m using Nat.strongRecOn with
  | ind m IH =>
    intro ch i hm hi ha
    have hlen := asc_len ha
    have haN : Asc 0 P.costs.length ch := ha.mono hi
    have hcm := loop_count (P := P) (m := P.costs.length - i) (ch := ch) (i := i)
    have hvis : visF P ch i = here P ch ++ loopF P (P.costs.length - i) ch i := rfl
    have hpow : 2 ^ (P.costs.length - i) ≤ 2 ^ 12 := Nat.pow_le_pow_right (by omega) (by omega)
    have hmm := meets_asc hv haN
    have hh1 : (here P ch).length ≤ 1 := by simp only [here]; split <;> simp
    refine good_of mixed tabOk Try.func100 rfl rfl Try.ntmps100 Try.results100 rfl rfl ?_
    (conv => whnf); (repeat' (first | (refine arith_i ⟨by omega, by omega⟩ ?_; conv => whnf) | (refine arith_u ⟨by omega, by omega⟩ ?_; conv => whnf) | (refine need_i (by first | omega | (simp only [List.length_append, List.length_cons, List.length_nil, List.length_map, List.length_replicate, List.length_modify]; omega)) ?_; conv => whnf) | ((with_reducible refine branch_tt ?_); conv => whnf) | ((with_reducible refine branch_ff ?_); conv => whnf) | (with_reducible refine branch_not ?_) | ((refine call_e (rMeets_ok P ch hfit (by omega)) ?_); conv => whnf) | ((with_reducible refine slc_e ?_); conv => whnf) | ((with_reducible refine callS_a ?_); conv => whnf) | ((with_reducible refine own_e ?_); conv => whnf) | ((with_reducible refine branch_d (fun hq => ?_) (fun hq => ?_)) <;> (try (exfalso; omega)) <;> (conv => whnf)) | ((with_reducible refine branch_e (fun hq => ?_) (fun hq => ?_)) <;> (try (exfalso; omega)) <;> (conv => whnf)) | ((with_reducible refine branch_n (fun hq => ?_) (fun hq => ?_)) <;> (try (exfalso; omega)) <;> (conv => whnf)) | ((with_reducible refine branch_i (fun hq => ?_) (fun hq => ?_)) <;> (try (exfalso; omega)) <;> (conv => whnf))))
    all_goals
      refine loop_i2 (fun (k : Nat) (l : List (List Int)) => i ≤ k ∧ k ≤ P.costs.length ∧ l ++ loopF P (P.costs.length - k) ch k = visF P ch i) (fun k l => mkSt [(1, ints ch), (3, .ptr 3 0), (7, .own 16 22 1 (l.map encS)), (8, .int .i64 k)] [(3, [ints P.costs, rowsV P.rows])] false) (fun k _ => P.costs.length - k) i (here P ch) ⟨Nat.le_refl _, hi, rfl⟩ ?_ ?_
      · rw [hmm] at hq
        first
          | (have hh : here P ch = [ch] := if_pos hq
             rw [hh]
             exact (le_mk (by repeat' (first | exact trivial | rfl | apply And.intro)) (by repeat' (first | exact trivial | rfl | apply And.intro)) rfl))
          | (have hh : here P ch = [] := if_neg (by rw [hq]; decide)
             rw [hh]
             exact Le.trans (le_adopt 7 16 22 1 rfl) (le_mk (by repeat' (first | exact trivial | rfl | apply And.intro)) (by repeat' (first | exact trivial | rfl | apply And.intro)) rfl))
      rintro k l ⟨hik, hkn, hl⟩
      have hll : l.length ≤ 8192 := by
        have := congrArg List.length hl
        rw [hvis] at this
        simp only [List.length_append] at this
        omega
      have LL : (l.map encS).length = l.length := List.length_map ..
      have LH : (ch.map encI).length = ch.length := List.length_map ..
      have hspl := fun h : k < P.costs.length => vis_snoc (P := P) (ch := ch) h
      have hak := fun h : k < P.costs.length => (ha.mono hik).snoc h
      have hvl := fun h : k < P.costs.length => congrArg List.length (hspl h)
      have hlc := loop_count (P := P) (m := P.costs.length - k) (ch := ch) (i := k)
      have hpw : 2 ^ (P.costs.length - k) ≤ 2 ^ 12 := Nat.pow_le_pow_right (by omega) (by omega)
      (conv => whnf); (repeat' (first | (refine arith_i ⟨by omega, by omega⟩ ?_; conv => whnf) | (refine arith_u ⟨by omega, by omega⟩ ?_; conv => whnf) | (refine need_i (by first | omega | (simp only [List.length_append, List.length_cons, List.length_nil, List.length_map, List.length_replicate, List.length_modify]; omega)) ?_; conv => whnf) | ((with_reducible refine branch_tt ?_); conv => whnf) | ((with_reducible refine branch_ff ?_); conv => whnf) | (with_reducible refine branch_not ?_) | ((simp only [snocI']); conv => whnf) | (((have hkl : k < P.costs.length := (by omega); have hvl1 := hvl hkl; rw [List.length_append] at hvl1; have LV : ((visF P (ch ++ [(k : Int)]) (k + 1)).map encS).length = (visF P (ch ++ [(k : Int)]) (k + 1)).length := List.length_map ..; refine call_e (IH (P.costs.length - (k + 1)) (by omega) (ch ++ [(k : Int)]) (k + 1) rfl (by omega) (hak hkl)) ?_)); conv => whnf) | ((with_reducible refine slc_e ?_); conv => whnf) | ((with_reducible refine callS_a ?_); conv => whnf) | ((with_reducible refine own_e ?_); conv => whnf) | ((with_reducible refine branch_d (fun hq => ?_) (fun hq => ?_)) <;> (try (exfalso; omega)) <;> (conv => whnf)) | ((with_reducible refine branch_e (fun hq => ?_) (fun hq => ?_)) <;> (try (exfalso; omega)) <;> (conv => whnf)) | ((with_reducible refine branch_n (fun hq => ?_) (fun hq => ?_)) <;> (try (exfalso; omega)) <;> (conv => whnf)) | ((with_reducible refine branch_i (fun hq => ?_) (fun hq => ?_)) <;> (try (exfalso; omega)) <;> (conv => whnf))))
      all_goals first
        | (have hkl : k < P.costs.length := by omega
           refine ⟨k + 1, l ++ visF P (ch ++ [(k : Int)]) (k + 1), ⟨by omega, by omega, by rw [List.append_assoc, ← hspl hkl]; exact hl⟩, by rw [show (l ++ visF P (ch ++ [(k : Int)]) (k + 1)).map encS = l.map encS ++ (visF P (ch ++ [(k : Int)]) (k + 1)).map encS from List.map_append]; exact (le_mk (by repeat' (first | exact trivial | rfl | apply And.intro)) (by repeat' (first | exact trivial | rfl | apply And.intro)) rfl), by omega⟩)
        | (have hkk : k = P.costs.length := by omega
           rw [hkk, Nat.sub_self, loopF, List.append_nil] at hl
           rw [hl]
           exact ret_ol rfl)
        | trace_state
/-- All, of the reference. -/
theorem rAll_ok (P : Prog) (hP : Fits P) : Good Try.prog TT false 44 [progV P] (· = allV P) := by
  refine good_of mixed tabOk Try.func44 rfl rfl Try.ntmps44 Try.results44 rfl rfl ?_
  (conv => whnf); (repeat' (first | (refine arith_i ⟨by omega, by omega⟩ ?_; conv => whnf) | (refine arith_u ⟨by omega, by omega⟩ ?_; conv => whnf) | (refine need_i (by first | omega | (simp only [List.length_append, List.length_cons, List.length_nil, List.length_map, List.length_replicate, List.length_modify]; omega)) ?_; conv => whnf) | ((with_reducible refine branch_tt ?_); conv => whnf) | ((with_reducible refine branch_ff ?_); conv => whnf) | (with_reducible refine branch_not ?_) | ((refine call_e (rValid_ok P hP) ?_); conv => whnf) | (((have hv : validB P = true := hq; refine call_w (args' := [progV P, ints [], .int .i64 0]) ⟨.inl (.inl rfl), .inl (.inr ⟨rfl, 1, rfl⟩), .inl (.inl rfl), trivial⟩ (below_ok P hv (P.costs.length - 0) [] 0 rfl (Nat.zero_le _) ⟨List.Pairwise.nil, by simp⟩) fun r hr => ?_; subst hr)); conv => whnf) | ((with_reducible refine slc_e ?_); conv => whnf) | ((with_reducible refine callS_a ?_); conv => whnf) | ((with_reducible refine own_e ?_); conv => whnf) | ((with_reducible refine branch_d (fun hq => ?_) (fun hq => ?_)) <;> (try (exfalso; omega)) <;> (conv => whnf)) | ((with_reducible refine branch_e (fun hq => ?_) (fun hq => ?_)) <;> (try (exfalso; omega)) <;> (conv => whnf)) | ((with_reducible refine branch_n (fun hq => ?_) (fun hq => ?_)) <;> (try (exfalso; omega)) <;> (conv => whnf)) | ((with_reducible refine branch_i (fun hq => ?_) (fun hq => ?_)) <;> (try (exfalso; omega)) <;> (conv => whnf))))
  · exact ret_t (rs := [.lst 1 ((allF P).map encS), .int .i64 0]) ⟨(rc_p rfl).g, (rc_p rfl).g, trivial⟩ (by rw [allV, if_pos hq])
  · exact ret_t (rs := [.lst 1 [], .int .i64 1]) ⟨.inl rc_n, (rc_p rfl).g, trivial⟩ (by rw [allV, if_neg (by simp [hq])])
set_option maxHeartbeats 2000000 in
theorem all_law (xs : List Int) (hx : xs.length ≤ 9223372036854775807) : Good Try.prog TT false 11 [ints xs] (· = .bool true) := by
  refine good_of mixed tabOk Try.func11 rfl rfl Try.ntmps11 Try.results11 rfl rfl ?_
  (conv => whnf); (repeat' (first | (refine arith_i ⟨by omega, by omega⟩ ?_; conv => whnf) | (refine arith_u ⟨by omega, by omega⟩ ?_; conv => whnf) | (refine need_i (by first | omega | (simp only [List.length_append, List.length_cons, List.length_nil, List.length_map, List.length_replicate, List.length_modify]; omega)) ?_; conv => whnf) | ((with_reducible refine branch_tt ?_); conv => whnf) | ((with_reducible refine branch_ff ?_); conv => whnf) | (with_reducible refine branch_not ?_) | ((refine call_e (new_ok xs hx) ?_); conv => whnf) | (((refine call_i (program_any 6 8 (by omega) (by omega)) fun r hr => ?_; obtain ⟨P, rfl, hP, -, -⟩ := hr; have LC : (P.costs.map encI).length = P.costs.length := List.length_map ..; have LR : (P.rows.map encRow).length = P.rows.length := List.length_map ..; have hP1 := hP.1; have hP2 := hP.2.1; have hfit : Fits P := ⟨by omega, by omega, fun r hr => by have := hP.2.2 r hr; omega⟩; obtain ⟨la, ea, hA⟩ : ∃ la ea, allV P = .tup [.lst 1 (List.map encS la), .int .i64 ea] ∧ (la.length ≤ 4096 ∧ ∀ c ∈ la, c.length ≤ 1000) := all_form P; have LA : (la.map encS).length = la.length := List.length_map ..)); conv => whnf) | ((refine call_e ((all_ok P hfit).mono fun r h => h.trans hA.1) ?_); conv => whnf) | ((refine call_e ((rAll_ok P hfit).mono fun r h => h.trans hA.1) ?_); conv => whnf) | ((with_reducible refine slc_e ?_); conv => whnf) | ((with_reducible refine callS_a ?_); conv => whnf) | ((with_reducible refine own_e ?_); conv => whnf) | (refine draw_i 10 (.take 0 (.take 1 (.take 2 (.take 3 (.take 4 (.take 5 (.take 6 (.take 7 (.alt 8 (.take 9 .done) .stop))))))))) (by decide +kernel) ?_; (conv => whnf); fail_if_success (guard_target =~ False)) | (refine draw_i 10 (.take 0 (.take 1 (.take 2 (.take 4 (.take 5 (.take 6 (.alt 3 (.alt 7 (.alt 8 (.take 9 .done) .stop) .stop) (.alt 7 (.alt 3 (.alt 8 (.take 9 .done) .stop) .stop) .stop)))))))) (by decide +kernel) ?_; (conv => whnf); fail_if_success (guard_target =~ False)) | ((with_reducible refine And.intro ?_ ?_) <;> (conv => whnf)) | (with_reducible exact trivial) | ((with_reducible refine branch_d (fun hq => ?_) (fun hq => ?_)) <;> (try (exfalso; omega)) <;> (conv => whnf)) | ((with_reducible refine branch_e (fun hq => ?_) (fun hq => ?_)) <;> (try (exfalso; omega)) <;> (conv => whnf)) | ((with_reducible refine branch_n (fun hq => ?_) (fun hq => ?_)) <;> (try (exfalso; omega)) <;> (conv => whnf)) | ((with_reducible refine branch_i (fun hq => ?_) (fun hq => ?_)) <;> (try (exfalso; omega)) <;> (conv => whnf))))
  refine loop_i (fun k : Nat => k ≤ la.length) (fun k => mkSt [(4, .lst 1 (la.map encS)), (6, .lst 1 (la.map encS)), (8, .int .i64 k)] [(3, [ints P.costs, rowsV P.rows])] true) (fun k => la.length - k) 0 (Nat.zero_le _) (le_mk (by repeat' (first | exact trivial | rfl | apply And.intro)) (by repeat' (first | exact trivial | rfl | apply And.intro)) rfl) ?_
  intro k hk
  (conv => whnf); (repeat' (first | (refine arith_i ⟨by omega, by omega⟩ ?_; conv => whnf) | (refine arith_u ⟨by omega, by omega⟩ ?_; conv => whnf) | (refine need_i (by first | omega | (simp only [List.length_append, List.length_cons, List.length_nil, List.length_map, List.length_replicate, List.length_modify]; omega)) ?_; conv => whnf) | ((with_reducible refine branch_tt ?_); conv => whnf) | ((with_reducible refine branch_ff ?_); conv => whnf) | (with_reducible refine branch_not ?_) | ((refine idx_cs (by assumption) ?_); conv => whnf) | (((refine idx_c (xs := la) (by omega) fun c hc => ?_; have hcl := hA.2.2 c (List.mem_of_getElem? hc))); conv => whnf) | ((refine call_e (ints_ok c c (by omega) (by omega)) ?_); conv => whnf) | ((refine call_e awake_ok ?_); conv => whnf) | ((with_reducible refine slc_e ?_); conv => whnf) | ((with_reducible refine callS_a ?_); conv => whnf) | ((with_reducible refine own_e ?_); conv => whnf) | (refine draw_i 10 (.take 0 (.take 1 (.take 2 (.take 3 (.take 4 (.take 5 (.take 6 (.take 7 (.alt 8 (.take 9 .done) .stop))))))))) (by decide +kernel) ?_; (conv => whnf); fail_if_success (guard_target =~ False)) | (refine draw_i 10 (.take 0 (.take 1 (.take 2 (.take 4 (.take 5 (.take 6 (.alt 3 (.alt 7 (.alt 8 (.take 9 .done) .stop) .stop) (.alt 7 (.alt 3 (.alt 8 (.take 9 .done) .stop) .stop) .stop)))))))) (by decide +kernel) ?_; (conv => whnf); fail_if_success (guard_target =~ False)) | ((with_reducible refine And.intro ?_ ?_) <;> (conv => whnf)) | (with_reducible exact trivial) | ((with_reducible refine branch_d (fun hq => ?_) (fun hq => ?_)) <;> (try (exfalso; omega)) <;> (conv => whnf)) | ((with_reducible refine branch_e (fun hq => ?_) (fun hq => ?_)) <;> (try (exfalso; omega)) <;> (conv => whnf)) | ((with_reducible refine branch_n (fun hq => ?_) (fun hq => ?_)) <;> (try (exfalso; omega)) <;> (conv => whnf)) | ((with_reducible refine branch_i (fun hq => ?_) (fun hq => ?_)) <;> (try (exfalso; omega)) <;> (conv => whnf))))
  all_goals first
    | exact ⟨k + 1, by omega, (le_mk (by repeat' (first | exact trivial | rfl | apply And.intro)) (by repeat' (first | exact trivial | rfl | apply And.intro)) rfl), by omega⟩
    | (exfalso; exact hq rfl)
    | exact ret_p rfl rfl
    | trace_state
end Go.Proofs.Ytlenfbnoobpdaaa
