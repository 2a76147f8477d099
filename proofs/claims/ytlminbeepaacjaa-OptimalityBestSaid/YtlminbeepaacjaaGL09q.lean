/- Layer 9: what is proved is sound; the law OptimalitySound. -/
import Derived.Test.YtlminbeepaacjaaGL09p
import Derived.Test.YtlminbeepaacjaaGBr3

namespace Go.Proofs.Ytlminbeepaacjaa
set_option linter.unusedVariables false
set_option linter.unusedSimpArgs false
set_option linter.unnecessarySimpa false
set_option linter.unusedSectionVars false
set_option maxRecDepth 10000
open Go.RowKit

theorem blocked_not {P : Prog} {s : List Int} {r : Row} {t : Nat} (hv : validB P = true) (hr : r ∈ P.rows) (hs : stOB s P.costs.length = true) (hc : Compl s t) (hb : blockedB s r = true) : meetB (subTo t P.costs.length) r = false := by
  have hl := st_len hs
  have h1 := blocked_span hv hr hs
  have h2 := span_holds (cs := r.coefs) hc (tri_all hs) s.length (Nat.le_refl _)
  have hcl := (valid_rows hv hr).1
  have h3 : spanF r.coefs s = spanTo r.coefs s s.length := by rw [spanF, h1.1, if_pos rfl, hcl, hl]
  rw [h1.2, h3] at hb
  rw [hl] at h2 hb
  cases hm : meetB (subTo t P.costs.length) r with
  | false => rfl
  | true =>
    exfalso
    simp only [meetB, Bool.and_eq_true, decide_eq_true_eq, sumOf_sub] at hm
    simp at hb
    omega
theorem goP_spec {P : Prog} : ∀ (ss : List (List Int)) (ns : List Nd) (best : Int) (sm : Bool) (b : Int) (s' : Bool), goP P ss ns best sm = (b, s', 0) → (sm = true → s' = true ∧ b ≤ best) ∧ ∀ (j : Nat) s n, ss[j]? = some s → ns[j]? = some n → (n.kind = 2 → blockedB s (rowAt P.rows n.row.toNat) = true) ∧ (n.kind = 3 → s' = true ∧ b ≤ boundF P s n)
  | [], ns, best, sm, b, s', h => by
    simp only [goP, Prod.mk.injEq] at h
    exact ⟨fun hh => ⟨by rw [← h.2.1]; exact hh, by omega⟩, fun j s n h1 => by simp at h1⟩
  | s :: ss, [], best, sm, b, s', h => by
    simp only [goP, Prod.mk.injEq] at h
    exact ⟨fun hh => ⟨by rw [← h.2.1]; exact hh, by omega⟩, fun j s n _ h1 => by simp at h1⟩
  | s :: ss, n :: ns, best, sm, b, s', h => by
    rw [goP] at h
    by_cases h2 : n.kind = 2
    · rw [if_pos h2] at h
      by_cases hb : blockedB s (rowAt P.rows n.row.toNat) = false
      · rw [if_pos hb] at h
        simp at h
      · rw [if_neg hb] at h
        have ih := goP_spec ss ns best sm b s' h
        refine ⟨ih.1, fun j x y g1 g2 => ?_⟩
        cases j with
        | zero =>
          simp at g1 g2
          subst g1 g2
          exact ⟨fun _ => by simpa using hb, fun h3 => by omega⟩
        | succ j => exact ih.2 j x y (by simpa using g1) (by simpa using g2)
    · rw [if_neg h2] at h
      by_cases h3 : n.kind = 3
      · rw [if_pos h3] at h
        have ih := goP_spec ss ns _ true b s' h
        have hbb := ih.1 rfl
        refine ⟨fun hh => ⟨hbb.1, ?_⟩, fun j x y g1 g2 => ?_⟩
        · have := hbb.2
          split at this
          · next hor => rcases hor with ho | ho
                        · rw [hh] at ho; cases ho
                        · omega
          · exact this
        · cases j with
          | zero =>
            simp at g1 g2
            subst g1 g2
            refine ⟨fun h => by omega, fun _ => ⟨hbb.1, ?_⟩⟩
            have := hbb.2
            split at this
            · exact this
            · next hor => have : ¬ boundF P s n < best := fun hh => hor (.inr hh)
                          omega
          | succ j => exact ih.2 j x y (by simpa using g1) (by simpa using g2)
      · rw [if_neg h3] at h
        have ih := goP_spec ss ns best sm b s' h
        refine ⟨ih.1, fun j x y g1 g2 => ?_⟩
        cases j with
        | zero =>
          simp at g1 g2
          subst g1 g2
          exact ⟨fun h => absurd h h2, fun h => absurd h h3⟩
        | succ j => exact ih.2 j x y (by simpa using g1) (by simpa using g2)
theorem sumN_ex {f : Nat → Int} : ∀ {n : Nat}, sumN f n = 1 → ∃ j, j < n ∧ f j ≠ 0
  | 0, h => by simp [sumN] at h
  | n + 1, h => by
    by_cases e : f n = 0
    · obtain ⟨j, hj, hf⟩ := sumN_ex (f := f) (n := n) (by rw [sumN, e] at h; omega)
      exact ⟨j, by omega, hf⟩
    · exact ⟨n, by omega, e⟩
/-- A bound that is proved is at most the cost of every choice that meets the program. -/
theorem proved_sound {P : Prog} {nodes : List Nd} {b : Int} {sm : Bool} (h : provedF P nodes = (b, sm, 0)) {t : Nat} (hm : meetsB P (subTo t P.costs.length) = true) : sm = true ∧ b ≤ costF P (subTo t P.costs.length) := by
  rcases states_err (P := P) (nodes := nodes) with ⟨o, ho⟩ | ⟨e, he, ho⟩
  · obtain ⟨-, hv, h0, h8, hol, hgood⟩ := states_good ho
    rw [provedF, ho] at h
    have hp := goP_spec o nodes 0 false b sm h
    obtain ⟨j, hj, hf⟩ := sumN_ex (states_count ho t)
    obtain ⟨n, hn⟩ : ∃ n, nodes[j]? = some n := ⟨_, List.getElem?_eq_getElem hj⟩
    obtain ⟨s, hs⟩ : ∃ s, o[j]? = some s := ⟨_, List.getElem?_eq_getElem (by omega)⟩
    have hg := hgood j s n hs hn
    have hsl := st_len hg.1
    have hnc := node_cases hg.2
    rw [leafC, getD_some hn, getD_some hs] at hf
    have hk : n.kind ≠ 1 := fun e => hf (by rw [if_neg (by simp [e])])
    rw [if_pos hk, com] at hf
    have hc : Compl s t := by
      rw [← com_compl hsl]
      cases hcc : completeB s (subTo t P.costs.length) with
      | true => rfl
      | false => rw [hcc] at hf; simp at hf
    have hq := hp.2 j s n hs hn
    have hor := hg.2 hk
    rw [Bool.or_eq_true] at hor
    rcases hor with hi | hb
    · have h2 : n.kind = 2 := by simp [infB] at hi; omega
      have hrow := hnc.1 h2
      exfalso
      have := blocked_not hv (rowAt_mem (show n.row.toNat < P.rows.length by omega)) hg.1 hc (hq.1 h2)
      simp only [meetsB, Bool.and_eq_true] at hm
      have h3 := List.all_eq_true.1 hm.2 _ (rowAt_mem (show n.row.toNat < P.rows.length by omega))
      rw [this] at h3
      cases h3
    · have h3 : n.kind = 3 := by rw [bnd_row] at hb; simp at hb; exact hb.1
      have h4 := hq.2 h3
      have h5 := bound_sound hv hb hsl (tri_all hg.1) hc hm
      exact ⟨h4.1, by omega⟩
  · rw [provedF, ho] at h
    simp at h
    omega
set_option maxHeartbeats 4000000 in
theorem sound9_law (xs : List Int) (l : List Nd) (hx : xs.length ≤ 9223372036854775807) : Good Try.prog TT false 9 [ints xs, ndsV l] (· = .bool true) := by
  have LL : (l.map encN).length = l.length := List.length_map ..
  refine good_of mixed tabOk Try.func9 rfl rfl Try.ntmps9 Try.results9 rfl rfl ?_
  (conv => whnf); (repeat' (first | (refine arith_i ⟨by omega, by omega⟩ ?_; conv => whnf) | (refine arith_u ⟨by omega, by omega⟩ ?_; conv => whnf) | (refine need_i (by first | omega | (simp only [List.length_append, List.length_cons, List.length_nil, List.length_map, List.length_replicate, List.length_modify]; omega)) ?_; conv => whnf) | ((with_reducible refine branch_tt ?_); conv => whnf) | ((with_reducible refine branch_ff ?_); conv => whnf) | (with_reducible refine branch_not ?_) | ((refine call_e (new_ok xs hx) ?_); conv => whnf) | (((refine call_i (program_any 5 0 (by omega) (by omega)) fun r hr => ?_; obtain ⟨P, rfl, hP, -, hg0⟩ := hr; have hg := hg0 rfl; have hv := progG_valid hg (by omega); have h5 : P.costs.length ≤ 5 := by {have := hg.len; omega}; have LC : (P.costs.map encI).length = P.costs.length := List.length_map ..; have LR : (P.rows.map encRow).length = P.rows.length := List.length_map ..; have hP1 := hP.1; have hP2 := hP.2.1; have hfit : Fits P := ⟨by omega, by omega, fun r hr => by have := hP.2.2 r hr; omega⟩)); conv => whnf) | ((with_reducible refine slc_e ?_); conv => whnf) | (refine draw_i 9 (.take 0 (.take 1 (.take 2 (.take 3 (.alt 4 (.take 5 (.alt 6 (.alt 7 (.take 8 .done) .stop) .stop)) .stop))))) (by decide +kernel) ?_; (conv => whnf); fail_if_success (guard_target =~ False)) | (refine draw_i 9 (.take 0 (.take 1 (.take 3 (.alt 2 (.alt 4 (.take 5 (.alt 6 (.alt 7 (.take 8 .done) .stop) .stop)) .stop) (.alt 4 (.take 5 (.alt 2 (.alt 6 (.alt 7 (.take 8 .done) .stop) .stop) .stop)) .stop))))) (by decide +kernel) ?_; (conv => whnf); fail_if_success (guard_target =~ False)) | ((with_reducible refine And.intro ?_ ?_) <;> (conv => whnf)) | (with_reducible exact trivial) | ((with_reducible refine branch_d (fun hq => ?_) (fun hq => ?_)) <;> (try (exfalso; omega)) <;> (conv => whnf)) | ((with_reducible refine branch_e (fun hq => ?_) (fun hq => ?_)) <;> (try (exfalso; omega)) <;> (conv => whnf)) | ((with_reducible refine branch_n (fun hq => ?_) (fun hq => ?_)) <;> (try (exfalso; omega)) <;> (conv => whnf)) | ((with_reducible refine branch_i (fun hq => ?_) (fun hq => ?_)) <;> (try (exfalso; omega)) <;> (conv => whnf))))
  · exact ret_p rfl rfl
  obtain ⟨N, hN⟩ : ∃ N : Nat, N = 2 ^ P.costs.length := ⟨_, rfl⟩
  have hN32 : N ≤ 32 := by rw [hN]; exact Nat.pow_le_pow_right (by omega) h5
  have eN := shl_pow (by omega) hN
  refine loop_i (fun j : Nat => j ≤ 2) (fun j => mkSt [(1, ndsV l), (5, .tape), (6, .ptr 6 0), (7, .int .i64 P.costs.length), (8, .int .i64 j)] [(6, [ints P.costs, rowsV P.rows])] true) (fun j => 2 - j) 0 (by omega) (by rw [← LC]; exact (le_mk (by repeat' (first | exact trivial | rfl | apply And.intro)) (by repeat' (first | exact trivial | rfl | apply And.intro)) rfl)) ?_
  intro j hj
  (conv => whnf); (repeat' (first | (refine arith_i ⟨by omega, by omega⟩ ?_; conv => whnf) | (refine arith_u ⟨by omega, by omega⟩ ?_; conv => whnf) | (refine need_i (by first | omega | (simp only [List.length_append, List.length_cons, List.length_nil, List.length_map, List.length_replicate, List.length_modify]; omega)) ?_; conv => whnf) | ((with_reducible refine branch_tt ?_); conv => whnf) | ((with_reducible refine branch_ff ?_); conv => whnf) | (with_reducible refine branch_not ?_) | ((refine call_e awake_ok ?_); conv => whnf) | (((refine call_i (next_ok _ (by omega)) fun r hr => ?_; obtain ⟨m1, rfl, -, h6⟩ := hr; have hm1 := h6 (by omega))); conv => whnf) | (((refine call_i (tree_ok P _ hfit (by omega) (by omega)) fun r hr => ?_; obtain ⟨l0, S0, rfl, -, -, hl0⟩ := hr)); conv => whnf) | (((refine call_i (bent_ok l0 _ (by omega) (by omega)) fun r hr => ?_; obtain ⟨l', rfl, hn1, hn2⟩ := hr)); conv => whnf) | ((refine call_e (proved_ok P _ hfit (by omega)) ?_); conv => whnf) | ((with_reducible refine slc_e ?_); conv => whnf) | (refine draw_i 9 (.take 0 (.take 1 (.take 2 (.take 3 (.alt 4 (.take 5 (.alt 6 (.alt 7 (.take 8 .done) .stop) .stop)) .stop))))) (by decide +kernel) ?_; (conv => whnf); fail_if_success (guard_target =~ False)) | (refine draw_i 9 (.take 0 (.take 1 (.take 3 (.alt 2 (.alt 4 (.take 5 (.alt 6 (.alt 7 (.take 8 .done) .stop) .stop)) .stop) (.alt 4 (.take 5 (.alt 2 (.alt 6 (.alt 7 (.take 8 .done) .stop) .stop) .stop)) .stop))))) (by decide +kernel) ?_; (conv => whnf); fail_if_success (guard_target =~ False)) | ((with_reducible refine And.intro ?_ ?_) <;> (conv => whnf)) | (with_reducible exact trivial) | ((with_reducible refine branch_d (fun hq => ?_) (fun hq => ?_)) <;> (try (exfalso; omega)) <;> (conv => whnf)) | ((with_reducible refine branch_e (fun hq => ?_) (fun hq => ?_)) <;> (try (exfalso; omega)) <;> (conv => whnf)) | ((with_reducible refine branch_n (fun hq => ?_) (fun hq => ?_)) <;> (try (exfalso; omega)) <;> (conv => whnf)) | ((with_reducible refine branch_i (fun hq => ?_) (fun hq => ?_)) <;> (try (exfalso; omega)) <;> (conv => whnf))))
  · exact ⟨j + 1, by omega, (le_mk (by repeat' (first | exact trivial | rfl | apply And.intro)) (by repeat' (first | exact trivial | rfl | apply And.intro)) rfl), by omega⟩
  · skip
    have e0 : provedF P l' = ((provedF P l').1, (provedF P l').2.1, 0) := by rw [← hq]
    have hps := fun t hm => proved_sound e0 (t := t) hm
    refine loop_i (fun t : Nat => t ≤ N) (fun t => mkSt [(1, ndsV l), (5, .tape), (6, .ptr 6 0), (7, .int .i64 P.costs.length), (8, .int .i64 j), (10, .int .i64 (provedF P l').1), (11, .bool (provedF P l').2.1), (13, .int .i64 t)] [(6, [ints P.costs, rowsV P.rows])] true) (fun t => N - t) 0 (Nat.zero_le _) (le_mk (by repeat' (first | exact trivial | rfl | apply And.intro)) (by repeat' (first | exact trivial | rfl | apply And.intro)) rfl) ?_
    intro t ht
    have hsl := sub_len t P.costs.length
    have hpt := hps t
    (conv => whnf); (repeat' (first | (refine arith_i ⟨by omega, by omega⟩ ?_; conv => whnf) | (refine arith_u ⟨by omega, by omega⟩ ?_; conv => whnf) | (refine need_i (by first | omega | (simp only [List.length_append, List.length_cons, List.length_nil, List.length_map, List.length_replicate, List.length_modify]; omega)) ?_; conv => whnf) | ((with_reducible refine branch_tt ?_); conv => whnf) | ((with_reducible refine branch_ff ?_); conv => whnf) | (with_reducible refine branch_not ?_) | ((refine call_e (subset_ok P.costs.length t (by omega) (by omega)) ?_); conv => whnf) | ((refine call_e (cost_ok P (subTo t P.costs.length) hfit (by omega)) ?_); conv => whnf) | ((refine call_e (meets_ok P (subTo t P.costs.length) hfit (by omega)) ?_); conv => whnf) | ((with_reducible refine slc_e ?_); conv => whnf) | (refine draw_i 9 (.take 0 (.take 1 (.take 2 (.take 3 (.alt 4 (.take 5 (.alt 6 (.alt 7 (.take 8 .done) .stop) .stop)) .stop))))) (by decide +kernel) ?_; (conv => whnf); fail_if_success (guard_target =~ False)) | (refine draw_i 9 (.take 0 (.take 1 (.take 3 (.alt 2 (.alt 4 (.take 5 (.alt 6 (.alt 7 (.take 8 .done) .stop) .stop)) .stop) (.alt 4 (.take 5 (.alt 2 (.alt 6 (.alt 7 (.take 8 .done) .stop) .stop) .stop)) .stop))))) (by decide +kernel) ?_; (conv => whnf); fail_if_success (guard_target =~ False)) | ((with_reducible refine And.intro ?_ ?_) <;> (conv => whnf)) | (with_reducible exact trivial) | ((with_reducible refine branch_d (fun hq => ?_) (fun hq => ?_)) <;> (try (exfalso; omega)) <;> (conv => whnf)) | ((with_reducible refine branch_e (fun hq => ?_) (fun hq => ?_)) <;> (try (exfalso; omega)) <;> (conv => whnf)) | ((with_reducible refine branch_n (fun hq => ?_) (fun hq => ?_)) <;> (try (exfalso; omega)) <;> (conv => whnf)) | ((with_reducible refine branch_i (fun hq => ?_) (fun hq => ?_)) <;> (try (exfalso; omega)) <;> (conv => whnf))))
    all_goals first
      | (exfalso
         have hm0 : meetsB P (subTo t P.costs.length) = true := by assumption
         have hh := hpt hm0
         first | omega | (have h8 : (provedF P l').2.1 = false := by assumption
                          rw [hh.1] at h8; cases h8))
      | (have h7 : (t : Int) < 1 * 2 ^ min ((P.costs.length : Int)).toNat IntKind.i64.bits := by assumption
         rw [eN] at h7
         have ht' : t < N := by omega
         exact ⟨t + 1, by omega, (le_mk (by repeat' (first | exact trivial | rfl | apply And.intro)) (by repeat' (first | exact trivial | rfl | apply And.intro)) rfl), by omega⟩)
      | exact ⟨j + 1, by omega, (le_mk (by repeat' (first | exact trivial | rfl | apply And.intro)) (by repeat' (first | exact trivial | rfl | apply And.intro)) rfl), by omega⟩
  · exact ⟨j + 1, by omega, (le_mk (by repeat' (first | exact trivial | rfl | apply And.intro)) (by repeat' (first | exact trivial | rfl | apply And.intro)) rfl), by omega⟩
  · skip
    have e0 : provedF P l = ((provedF P l).1, (provedF P l).2.1, 0) := by rw [← hq]
    have hps := fun t hm => proved_sound e0 (t := t) hm
    refine loop_i (fun t : Nat => t ≤ N) (fun t => mkSt [(1, ndsV l), (5, .tape), (6, .ptr 6 0), (7, .int .i64 P.costs.length), (8, .int .i64 j), (10, .int .i64 (provedF P l).1), (11, .bool (provedF P l).2.1), (13, .int .i64 t)] [(6, [ints P.costs, rowsV P.rows])] true) (fun t => N - t) 0 (Nat.zero_le _) (le_mk (by repeat' (first | exact trivial | rfl | apply And.intro)) (by repeat' (first | exact trivial | rfl | apply And.intro)) rfl) ?_
    intro t ht
    have hsl := sub_len t P.costs.length
    have hpt := hps t
    (conv => whnf); (repeat' (first | (refine arith_i ⟨by omega, by omega⟩ ?_; conv => whnf) | (refine arith_u ⟨by omega, by omega⟩ ?_; conv => whnf) | (refine need_i (by first | omega | (simp only [List.length_append, List.length_cons, List.length_nil, List.length_map, List.length_replicate, List.length_modify]; omega)) ?_; conv => whnf) | ((with_reducible refine branch_tt ?_); conv => whnf) | ((with_reducible refine branch_ff ?_); conv => whnf) | (with_reducible refine branch_not ?_) | ((refine call_e (subset_ok P.costs.length t (by omega) (by omega)) ?_); conv => whnf) | ((refine call_e (cost_ok P (subTo t P.costs.length) hfit (by omega)) ?_); conv => whnf) | ((refine call_e (meets_ok P (subTo t P.costs.length) hfit (by omega)) ?_); conv => whnf) | ((with_reducible refine slc_e ?_); conv => whnf) | (refine draw_i 9 (.take 0 (.take 1 (.take 2 (.take 3 (.alt 4 (.take 5 (.alt 6 (.alt 7 (.take 8 .done) .stop) .stop)) .stop))))) (by decide +kernel) ?_; (conv => whnf); fail_if_success (guard_target =~ False)) | (refine draw_i 9 (.take 0 (.take 1 (.take 3 (.alt 2 (.alt 4 (.take 5 (.alt 6 (.alt 7 (.take 8 .done) .stop) .stop)) .stop) (.alt 4 (.take 5 (.alt 2 (.alt 6 (.alt 7 (.take 8 .done) .stop) .stop) .stop)) .stop))))) (by decide +kernel) ?_; (conv => whnf); fail_if_success (guard_target =~ False)) | ((with_reducible refine And.intro ?_ ?_) <;> (conv => whnf)) | (with_reducible exact trivial) | ((with_reducible refine branch_d (fun hq => ?_) (fun hq => ?_)) <;> (try (exfalso; omega)) <;> (conv => whnf)) | ((with_reducible refine branch_e (fun hq => ?_) (fun hq => ?_)) <;> (try (exfalso; omega)) <;> (conv => whnf)) | ((with_reducible refine branch_n (fun hq => ?_) (fun hq => ?_)) <;> (try (exfalso; omega)) <;> (conv => whnf)) | ((with_reducible refine branch_i (fun hq => ?_) (fun hq => ?_)) <;> (try (exfalso; omega)) <;> (conv => whnf))))
    all_goals first
      | (exfalso
         have hm0 : meetsB P (subTo t P.costs.length) = true := by assumption
         have hh := hpt hm0
         first | omega | (have h8 : (provedF P l).2.1 = false := by assumption
                          rw [hh.1] at h8; cases h8))
      | (have h7 : (t : Int) < 1 * 2 ^ min ((P.costs.length : Int)).toNat IntKind.i64.bits := by assumption
         rw [eN] at h7
         have ht' : t < N := by omega
         exact ⟨t + 1, by omega, (le_mk (by repeat' (first | exact trivial | rfl | apply And.intro)) (by repeat' (first | exact trivial | rfl | apply And.intro)) rfl), by omega⟩)
      | exact ⟨j + 1, by omega, (le_mk (by repeat' (first | exact trivial | rfl | apply And.intro)) (by repeat' (first | exact trivial | rfl | apply And.intro)) rfl), by omega⟩
  · exact ret_p rfl rfl
def ndOf (r : List Int) : Nd := ⟨r.getD 0 0, r.getD 1 0, r.getD 2 0, r.getD 3 0, r.getD 4 0, r.getD 5 0, r.getD 6 0⟩
theorem ndOf_enc {r : List Int} (h : r.length = 7) : r.map (AV.int .i64) = encN (ndOf r) := by
  match r, h with
  | [a, b, c, d, e, f, g], _ => rfl
theorem nodes_row {w : World} {a : Option Addr} {len cap : Nat} {zs : List (List Int)} (h : IsRecs w 7 a len cap zs) : RepV w No (ndsV (zs.map ndOf)) (.slice a len cap) := by
  have e : (zs.map fun r => r.map (AV.int .i64)) = (zs.map ndOf).map encN := by
    rw [List.map_map]
    exact List.map_congr_left fun r hr => ndOf_enc (h.2.1 r hr)
  have := recs_row (by omega) h
  rw [e] at this
  exact this
end Go.Proofs.Ytlminbeepaacjaa
