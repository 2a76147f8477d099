/- Layer 8: the law BlueprintMeans. -/
import Derived.Test.YtpglaaiecgjmmaaGL08x
import Derived.Test.YtpglaaiecgjmmaaGL08u
import Derived.Test.YtpglaaiecgjmmaaGL08c
namespace Go.Proofs.Ytpglaaiecgjmmaa
set_option linter.unusedVariables false
set_option linter.unusedSimpArgs false
set_option linter.unnecessarySimpa false
set_option linter.unusedSectionVars false
set_option maxRecDepth 10000
open Go.RowKit
def plGL08y_0 : Plan := (.take 0 (.take 1 (.take 3 (.take 4 (.take 5 (.alt 2 (.alt 6 (.take 7 .done) .stop) .stop))))))
def plGL08y_1 : Plan := (.take 1 (.take 4 (.take 5 (.alt 0 (.alt 2 (.alt 3 (.alt 6 (.take 7 .done) .stop) .stop) (.alt 3 (.alt 2 (.alt 6 (.take 7 .done) .stop) .stop) .stop)) (.alt 3 (.alt 0 (.alt 2 (.alt 6 (.take 7 .done) .stop) .stop) .stop) .stop)))))
def plGL08y_2 : Plan := (.take 1 (.take 4 (.take 5 (.alt 0 (.altM 2 (.alt 3 (.altM 6 (.take 7 .done) .stop) .stop) (.alt 3 (.altM 2 (.altM 6 (.take 7 .done) .stop) .stop) .stop)) (.alt 3 (.alt 0 (.altM 2 (.altM 6 (.take 7 .done) .stop) .stop) .stop) .stop)))))
theorem shl_pow8 {n N : Nat} (hn : n ≤ 12) (hN : N = 2 ^ n) : (1 : Int) * 2 ^ (min (n : Int).toNat IntKind.i64.bits) = (N : Int) := by
  have e : min (n : Int).toNat IntKind.i64.bits = n := by
    have : IntKind.i64.bits = 64 := rfl
    omega
  rw [e, hN]; simp
theorem meanP_rep {l : List Itm} : List.replicate ((l.map encX).length : Int).toNat [AV.int .i64 0] = (List.replicate l.length 0).map encI := by simp [encI]
set_option maxHeartbeats 4000000 in
theorem means_law (xs : List Int) (hx : xs.length ≤ 9223372036854775807) : Good Try.prog TT false 8 [ints xs] (· = .bool true) := by
  refine good_of mixed tabOk Try.func8 rfl rfl Try.ntmps8 Try.results8 rfl rfl ?_
  (conv => whnf); (repeat' (first | (refine arith_i ⟨by omega, by omega⟩ ?_; conv => whnf) | (refine arith_u ⟨by omega, by omega⟩ ?_; conv => whnf) | (refine arith_8 ⟨by omega, by omega⟩ ?_; conv => whnf) | (refine need_i (by first | omega | (simp only [List.length_append, List.length_cons, List.length_nil, List.length_map, List.length_replicate, List.length_modify]; omega)) ?_; conv => whnf) | ((with_reducible refine branch_tt ?_); conv => whnf) | ((with_reducible refine branch_ff ?_); conv => whnf) | (with_reducible refine branch_not ?_) | ((refine call_e (new_ok xs hx) ?_); conv => whnf) | (((refine call_i (blueprint_ok 0 (by omega)) fun r hr => ?_; obtain ⟨b, rfl, hb⟩ := hr; have hb0 := hb.ok rfl)); conv => whnf) | (((refine call_i (items_ok 5 (by omega)) fun r hr => ?_; obtain ⟨l, rfl, hl, hg⟩ := hr; have LL : (l.map encX).length = l.length := List.length_map ..)); conv => whnf) | (((refine call_e (rows_at (l := l) rfl hb.short (by omega) (fun x hx => (hg x hx).1) hb.frm) ?_; rw [rowsR_eq])); conv => whnf) | ((with_reducible refine slc_e ?_); conv => whnf) | ((with_reducible refine callS_a ?_); conv => whnf) | ((with_reducible refine own_e ?_); conv => whnf) | (refine draw_i 8 plGL08y_0 (by decide +kernel) ?_; (conv => whnf); fail_if_success (guard_target =~ False)) | (refine draw_i 8 plGL08y_1 (by decide +kernel) ?_; (conv => whnf); fail_if_success (guard_target =~ False)) | ((with_reducible refine And.intro ?_ ?_) <;> (conv => whnf)) | (with_reducible exact trivial) | ((with_reducible refine branch_d (fun hq => ?_) (fun hq => ?_)) <;> (try (exfalso; omega)) <;> (conv => whnf)) | ((with_reducible refine branch_e (fun hq => ?_) (fun hq => ?_)) <;> (try (exfalso; omega)) <;> (conv => whnf)) | ((with_reducible refine branch_n (fun hq => ?_) (fun hq => ?_)) <;> (try (exfalso; omega)) <;> (conv => whnf)) | ((with_reducible refine branch_i (fun hq => ?_) (fun hq => ?_)) <;> (try (exfalso; omega)) <;> (conv => whnf))))
  all_goals
    obtain ⟨hbf, k1, k2, k3, k4⟩ := hb0
    have h5 : l.length ≤ 5 := by omega
    have h00 : ∀ x ∈ l, itemF x = 0 := fun x hx => (hg x hx).2
    have hpl := pairI_len (l := l) (m := l.length) (i := 0)
    have h25 : l.length * l.length ≤ 5 * 5 := Nat.mul_le_mul h5 h5
    have hRL : (rowsL b l).length ≤ 60 := by
      have e : (rowsL b l).length = 2 + b.topics.length + b.objectives.length + b.required.length + (pairI l l.length 0).length + b.previous.length := by simp [rowsL, pairsF]; omega
      omega
    have hE : rowsE b l = 0 := by rw [rowsE_of hbf (by omega) h00, if_neg (by omega)]
  · exact absurd hE hq
  · have hO : rowsO b l = rowsL b l := by rw [rowsO, if_pos hE]
    rw [hO, meanP_rep]
    have hfit : Fits ⟨List.replicate l.length 0, rowsL b l⟩ := ⟨by rw [List.length_replicate]; omega, by show (rowsL b l).length ≤ _; omega, fun r hr => by have := rowsL_coefs r hr; omega⟩
    obtain ⟨N, hN⟩ : ∃ N, N = 2 ^ l.length := ⟨_, rfl⟩
    have hN32 : N ≤ 32 := by rw [hN]; exact Nat.pow_le_pow_right (n := 2) (by omega) h5
    have hsh := shl_pow8 (n := l.length) (by omega) hN
    refine loop_i (fun t : Nat => t ≤ N) (fun t => mkSt [(4, .ptr 4 0), (5, .lst 5 (l.map encX)), (8, .ptr 8 0), (9, .int .i64 t)] [(4, bluC b), (8, [ints (List.replicate l.length 0), rowsV (rowsL b l)])] true) (fun t => N - t) 0 (Nat.zero_le _) (Le.trans (le_erase 27) (le_mk (by repeat' (first | exact trivial | rfl | apply And.intro)) (by repeat' (first | exact trivial | rfl | apply And.intro)) rfl)) ?_
    intro t ht
    have hms := mean_sub hbf (by omega) h00 hRL t
    have hsl := sub_len t l.length
    have hmt := (meets_ok ⟨List.replicate l.length 0, rowsL b l⟩ (subTo t l.length) hfit (by omega)).mono fun r h => h.trans (bool_eq hms)
    have hwt := wanted_ok b l (subTo t l.length) hbf (fun f hf => by have := hb.frm f hf; omega) (by omega) (by omega) (fun x hx => (hg x hx).1) h00 (fun c hc => by obtain ⟨i, h1, rfl, -⟩ := mem_sub.1 hc; omega)
    (conv => whnf); (repeat' (first | (refine arith_i ⟨by omega, by omega⟩ ?_; conv => whnf) | (refine arith_u ⟨by omega, by omega⟩ ?_; conv => whnf) | (refine arith_8 ⟨by omega, by omega⟩ ?_; conv => whnf) | (refine need_i (by first | omega | (simp only [List.length_append, List.length_cons, List.length_nil, List.length_map, List.length_replicate, List.length_modify]; omega)) ?_; conv => whnf) | ((with_reducible refine branch_tt ?_); conv => whnf) | ((with_reducible refine branch_ff ?_); conv => whnf) | (with_reducible refine branch_not ?_) | (((rw [LL, hsh])); conv => whnf) | (((rw [LL]; refine call_e (subset_ok l.length t (by omega) (by omega)) ?_)); conv => whnf) | ((refine call_e hmt ?_); conv => whnf) | ((refine call_e hwt ?_); conv => whnf) | ((refine call_e awake8_ok ?_); conv => whnf) | ((with_reducible refine slc_e ?_); conv => whnf) | ((with_reducible refine callS_a ?_); conv => whnf) | ((with_reducible refine own_e ?_); conv => whnf) | (refine draw_i 8 plGL08y_0 (by decide +kernel) ?_; (conv => whnf); fail_if_success (guard_target =~ False)) | (refine draw_i 8 plGL08y_1 (by decide +kernel) ?_; (conv => whnf); fail_if_success (guard_target =~ False)) | ((with_reducible refine And.intro ?_ ?_) <;> (conv => whnf)) | (with_reducible exact trivial) | ((with_reducible refine branch_d (fun hq => ?_) (fun hq => ?_)) <;> (try (exfalso; omega)) <;> (conv => whnf)) | ((with_reducible refine branch_e (fun hq => ?_) (fun hq => ?_)) <;> (try (exfalso; omega)) <;> (conv => whnf)) | ((with_reducible refine branch_n (fun hq => ?_) (fun hq => ?_)) <;> (try (exfalso; omega)) <;> (conv => whnf)) | ((with_reducible refine branch_i (fun hq => ?_) (fun hq => ?_)) <;> (try (exfalso; omega)) <;> (conv => whnf))))
    all_goals first
      | exact ⟨t + 1, by omega, le_mk ⟨rfl, rfl, rfl, by rw [Int.natCast_add]; rfl, trivial⟩ ⟨rfl, rfl, trivial⟩ rfl, by omega⟩
      | exact ret_p rfl rfl
      | (exfalso; cases hh : wantedB b l (subTo t l.length) <;> rw [hh] at hq <;> simp at hq; done)
      | trace_state
end Go.Proofs.Ytpglaaiecgjmmaa
