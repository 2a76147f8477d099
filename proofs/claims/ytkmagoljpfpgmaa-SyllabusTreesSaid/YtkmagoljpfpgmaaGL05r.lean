/- Layer 5: Under, Path, Common, Leaves of both sides, for whatever syllabus. -/
import Derived.Test.YtkmagoljpfpgmaaGL05q
namespace Go.Proofs.Ytkmagoljpfpgmaa
set_option linter.unusedVariables false
set_option linter.unusedSimpArgs false
set_option linter.unnecessarySimpa false
set_option linter.unusedSectionVars false
set_option maxRecDepth 10000
open Go.RowKit
def underF (s : Syl) (a : Int) : List Int := if topB s a = true then toI (underN (parF s) s.tops.length a.toNat) else []
theorem topB_parts {s : Syl} {a : Int} (h : topB s a = true) : (0 ≤ a ∧ a < s.tops.length) ∧ checkS s = 0 := by simpa [topB] using h
theorem dfs_small {s : Syl} (hV : ∀ k, -1 ≤ parF s k ∧ parF s k < k) {t : Nat} (ht : t < s.tops.length) : (dfs (parF s) s.tops.length s.tops.length t).length ≤ s.tops.length := by
  rw [(dfs_perm hV ht).length_eq, underN]
  exact Nat.le_trans (List.length_filter_le ..) (by simp)
set_option maxHeartbeats 2000000 in
theorem under_ok (s : Syl) (hs : ShortS s) (a : Int) : Good Try.prog TT false 13 [sylV s, .int .i64 a] (· = ints (underF s a)) := by
  refine good_of mixed tabOk Try.func13 rfl rfl Try.ntmps13 Try.results13 rfl rfl ?_
  (conv => whnf); (repeat' (first | (refine arith_i ⟨by omega, by omega⟩ ?_; conv => whnf) | (refine arith_u ⟨by omega, by omega⟩ ?_; conv => whnf) | (refine arith_8 ⟨by omega, by omega⟩ ?_; conv => whnf) | (refine need_i (by first | omega | (simp only [List.length_append, List.length_cons, List.length_nil, List.length_map, List.length_replicate, List.length_modify]; omega)) ?_; conv => whnf) | ((with_reducible refine branch_tt ?_); conv => whnf) | ((with_reducible refine branch_ff ?_); conv => whnf) | (with_reducible refine branch_not ?_) | ((refine call_e (isTopicG_ok s hs a) ?_); conv => whnf) | (((obtain ⟨⟨ha, ha'⟩, hc⟩ := topB_parts (by simp_all : topB s a = true); obtain ⟨t, rfl⟩ : ∃ t : Nat, a = t := ⟨a.toNat, by omega⟩; have hV := par_valid hc; have hds := dfs_small hV (t := t) (by omega); have h1000 := hs.1; refine mcall_i [(1000, 5), (1001, 2), (1002, 6)] [(1100, 1100)] _ (le_adoptBox 5 0 1100 3 1 rfl rfl) (walk_ok s hs hV hs.1 s.tops.length t [] (by omega) (by omega) (by simp; omega)) rfl rfl rfl ⟨⟨_, rfl, rfl, rfl⟩, ⟨_, rfl, rfl, rfl⟩, ⟨_, rfl, rfl, rfl⟩, trivial⟩ ?_; rintro r ov bx' ⟨rfl, rfl, rfl⟩; refine ⟨rfl, ?_⟩)); conv => whnf) | (((have hsz : (toI (dfs (parF s) s.tops.length s.tops.length t)).length ≤ 1000000 := (by simp [toI]; omega); simp only [List.nil_append]; refine mcall_e [] [(0, 1100)] (sortI_ok (toI (dfs (parF s) s.tops.length s.tops.length t)) hsz) rfl rfl rfl trivial rfl ?_)); conv => whnf) | ((with_reducible refine slc_e ?_); conv => whnf) | ((with_reducible refine callS_a ?_); conv => whnf) | ((with_reducible refine bld_a ?_); conv => whnf) | ((with_reducible refine own_e ?_); conv => whnf) | ((with_reducible refine mkmap_b ?_); conv => whnf) | ((with_reducible refine branch_d (fun hq => ?_) (fun hq => ?_)) <;> (try (exfalso; omega)) <;> (conv => whnf)) | ((with_reducible refine branch_e (fun hq => ?_) (fun hq => ?_)) <;> (try (exfalso; omega)) <;> (conv => whnf)) | ((with_reducible refine branch_n (fun hq => ?_) (fun hq => ?_)) <;> (try (exfalso; omega)) <;> (conv => whnf)) | ((with_reducible refine branch_i (fun hq => ?_) (fun hq => ?_)) <;> (try (exfalso; omega)) <;> (conv => whnf))))
  · refine ret_ol ?_
    rw [underF, if_pos (by simp_all), dfs_sort hV (by omega), Int.toNat_natCast]
    rfl
  · exact ret_nl (by rw [underF, if_neg (by simp_all)]; rfl)
end Go.Proofs.Ytkmagoljpfpgmaa
