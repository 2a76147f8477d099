/- Layer 5: Under, Path, Common, Leaves of both sides, for whatever syllabus. -/
import Derived.Test.YtkmagoljpfpgmaaPl05b
import Derived.Test.YtkmagoljpfpgmaaShl
import Derived.Test.YtkmagoljpfpgmaaGL05g
import Derived.Test.YtkmagoljpfpgmaaGL08b
import Derived.Test.YtkmagoljpfpgmaaGA
namespace Go.Proofs.Ytkmagoljpfpgmaa
set_option linter.unusedVariables false
set_option linter.unusedSimpArgs false
set_option linter.unnecessarySimpa false
set_option linter.unusedSectionVars false
set_option maxRecDepth 10000
open Go.RowKit
def topB (s : Syl) (t : Int) : Bool := decide (0 ≤ t ∧ t < s.tops.length) && decide (checkS s = 0)
theorem isTopicG_ok (s : Syl) (hs : ShortS s) (a : Int) : Good Try.prog TT false 36 [sylV s, .int .i64 a] (· = .bool (topB s a)) := by
  have L1 : (s.tops.map encTpc).length = s.tops.length := List.length_map ..
  refine good_of mixed tabOk Try.func36 rfl rfl Try.ntmps36 Try.results36 rfl rfl ?_
  (conv => whnf); (repeat' (first | (refine arith_i ⟨by omega, by omega⟩ ?_; conv => whnf) | (refine arith_u ⟨by omega, by omega⟩ ?_; conv => whnf) | (refine arith_8 ⟨by omega, by omega⟩ ?_; conv => whnf) | (refine need_i (by first | omega | (simp only [List.length_append, List.length_cons, List.length_nil, List.length_map, List.length_replicate, List.length_modify]; omega)) ?_; conv => whnf) | ((with_reducible refine branch_tt ?_); conv => whnf) | ((with_reducible refine branch_ff ?_); conv => whnf) | (with_reducible refine branch_not ?_) | ((refine call_e (check_ok s hs) ?_); conv => whnf) | ((with_reducible refine slc_e ?_); conv => whnf) | ((with_reducible refine callS_a ?_); conv => whnf) | ((with_reducible refine bld_a ?_); conv => whnf) | ((with_reducible refine own_e ?_); conv => whnf) | ((with_reducible refine mkmap_b ?_); conv => whnf) | ((with_reducible refine branch_d (fun hq => ?_) (fun hq => ?_)) <;> (try (exfalso; omega)) <;> (conv => whnf)) | ((with_reducible refine branch_e (fun hq => ?_) (fun hq => ?_)) <;> (try (exfalso; omega)) <;> (conv => whnf)) | ((with_reducible refine branch_n (fun hq => ?_) (fun hq => ?_)) <;> (try (exfalso; omega)) <;> (conv => whnf)) | ((with_reducible refine branch_i (fun hq => ?_) (fun hq => ?_)) <;> (try (exfalso; omega)) <;> (conv => whnf))))
  all_goals first
    | exact ret_p rfl (bool_eq (by rw [Bool.eq_iff_iff]; simp [topB]; omega))
theorem rtopic_ok (s : Syl) (hs : ShortS s) (a : Int) : Good Try.prog TT false 39 [sylV s, .int .i64 a] (· = .bool (topB s a)) := by
  have L1 : (s.tops.map encTpc).length = s.tops.length := List.length_map ..
  refine good_of mixed tabOk Try.func39 rfl rfl Try.ntmps39 Try.results39 rfl rfl ?_
  (conv => whnf); (repeat' (first | (refine arith_i ⟨by omega, by omega⟩ ?_; conv => whnf) | (refine arith_u ⟨by omega, by omega⟩ ?_; conv => whnf) | (refine arith_8 ⟨by omega, by omega⟩ ?_; conv => whnf) | (refine need_i (by first | omega | (simp only [List.length_append, List.length_cons, List.length_nil, List.length_map, List.length_replicate, List.length_modify]; omega)) ?_; conv => whnf) | ((with_reducible refine branch_tt ?_); conv => whnf) | ((with_reducible refine branch_ff ?_); conv => whnf) | (with_reducible refine branch_not ?_) | ((refine call_e (refCheck_ok s hs) ?_); conv => whnf) | ((with_reducible refine slc_e ?_); conv => whnf) | ((with_reducible refine callS_a ?_); conv => whnf) | ((with_reducible refine bld_a ?_); conv => whnf) | ((with_reducible refine own_e ?_); conv => whnf) | ((with_reducible refine mkmap_b ?_); conv => whnf) | ((with_reducible refine branch_d (fun hq => ?_) (fun hq => ?_)) <;> (try (exfalso; omega)) <;> (conv => whnf)) | ((with_reducible refine branch_e (fun hq => ?_) (fun hq => ?_)) <;> (try (exfalso; omega)) <;> (conv => whnf)) | ((with_reducible refine branch_n (fun hq => ?_) (fun hq => ?_)) <;> (try (exfalso; omega)) <;> (conv => whnf)) | ((with_reducible refine branch_i (fun hq => ?_) (fun hq => ?_)) <;> (try (exfalso; omega)) <;> (conv => whnf))))
  all_goals first
    | exact ret_p rfl (bool_eq (by rw [Bool.eq_iff_iff]; simp [topB]; omega))
def wCap : List AV := [.ptr 1000 0, .ptr 1001 0, .ptr 1002 0]
def wBx (s : Syl) (l : List Int) : List (Nat × List AV) := [(1000, [.own 1100 3 1 (l.map encI)]), (1001, sylC s), (1002, [.fn 37 wCap])]
theorem toI_snoc {l : List Int} {x : Nat} : l.map encI ++ [[AV.int .i64 (x : Int)]] = (l ++ [(x : Int)]).map encI := by simp [encI]
theorem kid_drop {p : Nat → Int} {n t : Nat} : (List.range n).filter (kid p t) = ((List.range n).drop (t + 1)).filter (kid p t) := by
  have h := List.take_append_drop (t + 1) (List.range n)
  have e : ((List.range n).take (t + 1)).filter (kid p t) = [] := by
    rw [List.filter_eq_nil_iff]
    intro x hx
    rw [List.take_range, List.mem_range] at hx
    simp only [kid, decide_eq_true_eq]; omega
  conv => lhs; rw [← h, List.filter_append, e, List.nil_append]
theorem dfs_pos {p : Nat → Int} {n f t : Nat} : 1 ≤ (dfs p n f t).length := by cases f <;> simp [dfs]
set_option maxHeartbeats 2000000 in
theorem walk_ok (s : Syl) (hs : ShortS s) (hV : ∀ k, -1 ≤ parF s k ∧ parF s k < k) (hT : s.tops.length ≤ 1000) : ∀ (f t : Nat) (l : List Int), t < s.tops.length → s.tops.length ≤ f + t + 1 → l.length + (dfs (parF s) s.tops.length f t).length ≤ 1000000 →
    GoodM Try.prog TT false 37 (.int .i64 t :: wCap) (wBx s l) (fun r ov bx => r = .tup [] ∧ ov = [] ∧ bx = wBx s (l ++ toI (dfs (parF s) s.tops.length f t))) := by
  have L1 : (s.tops.map encTpc).length = s.tops.length := List.length_map ..
  intro f
  induction f with
  | zero =>
    intro t l ht hf hl
    have LL : (l.map encI).length = l.length := List.length_map ..
    have hd := dfs_pos (p := parF s) (n := s.tops.length) (f := 0) (t := t)
    refine good_of_m (fun _ => false) mixed tabOk Try.func37 rfl rfl Try.ntmps37 Try.results37 rfl rfl ?_
    (conv => whnf); (repeat' (first | (refine arith_i ⟨by omega, by omega⟩ ?_; conv => whnf) | (refine arith_u ⟨by omega, by omega⟩ ?_; conv => whnf) | (refine arith_8 ⟨by omega, by omega⟩ ?_; conv => whnf) | (refine need_i (by first | omega | (simp only [List.length_append, List.length_cons, List.length_nil, List.length_map, List.length_replicate, List.length_modify]; omega)) ?_; conv => whnf) | ((with_reducible refine branch_tt ?_); conv => whnf) | ((with_reducible refine branch_ff ?_); conv => whnf) | (with_reducible refine branch_not ?_) | ((simp only [toI_snoc]); conv => whnf) | ((with_reducible refine slc_e ?_); conv => whnf) | ((with_reducible refine callS_a ?_); conv => whnf) | ((with_reducible refine bld_a ?_); conv => whnf) | ((with_reducible refine own_e ?_); conv => whnf) | ((with_reducible refine mkmap_b ?_); conv => whnf) | ((with_reducible refine branch_d (fun hq => ?_) (fun hq => ?_)) <;> (try (exfalso; omega)) <;> (conv => whnf)) | ((with_reducible refine branch_e (fun hq => ?_) (fun hq => ?_)) <;> (try (exfalso; omega)) <;> (conv => whnf)) | ((with_reducible refine branch_n (fun hq => ?_) (fun hq => ?_)) <;> (try (exfalso; omega)) <;> (conv => whnf)) | ((with_reducible refine branch_i (fun hq => ?_) (fun hq => ?_)) <;> (try (exfalso; omega)) <;> (conv => whnf))))
    refine loop_i (fun k : Nat => k = t + 1) (fun k => mkSt [(0, .int .i64 t), (2, .ptr 1001 0), (3, .ptr 1002 0), (5, .int .i64 k)] (wBx s (l ++ [(t : Int)])) false) (fun _ => 0) (t + 1) rfl (by rw [Int.natCast_add]; exact (le_mk (by repeat' (first | exact trivial | rfl | apply And.intro)) (by repeat' (first | exact trivial | rfl | apply And.intro)) rfl)) ?_
    intro k hk
    (conv => whnf); (repeat' (first | (refine arith_i ⟨by omega, by omega⟩ ?_; conv => whnf) | (refine arith_u ⟨by omega, by omega⟩ ?_; conv => whnf) | (refine arith_8 ⟨by omega, by omega⟩ ?_; conv => whnf) | (refine need_i (by first | omega | (simp only [List.length_append, List.length_cons, List.length_nil, List.length_map, List.length_replicate, List.length_modify]; omega)) ?_; conv => whnf) | ((with_reducible refine branch_tt ?_); conv => whnf) | ((with_reducible refine branch_ff ?_); conv => whnf) | (with_reducible refine branch_not ?_) | (((refine idx_c (xs := s.tops) (by omega) fun y hy => ?_)); conv => whnf) | ((with_reducible refine slc_e ?_); conv => whnf) | ((with_reducible refine callS_a ?_); conv => whnf) | ((with_reducible refine bld_a ?_); conv => whnf) | ((with_reducible refine own_e ?_); conv => whnf) | ((with_reducible refine mkmap_b ?_); conv => whnf) | ((with_reducible refine branch_d (fun hq => ?_) (fun hq => ?_)) <;> (try (exfalso; omega)) <;> (conv => whnf)) | ((with_reducible refine branch_e (fun hq => ?_) (fun hq => ?_)) <;> (try (exfalso; omega)) <;> (conv => whnf)) | ((with_reducible refine branch_n (fun hq => ?_) (fun hq => ?_)) <;> (try (exfalso; omega)) <;> (conv => whnf)) | ((with_reducible refine branch_i (fun hq => ?_) (fun hq => ?_)) <;> (try (exfalso; omega)) <;> (conv => whnf))))
    all_goals first
      | (exfalso; omega)
      | (have e : toI (dfs (parF s) s.tops.length 0 t) = [(t : Int)] := rfl
         rw [e]
         exact retM_i (.tup []) [] (wBx s (l ++ [(t : Int)])) rfl (le_mk (by repeat' (first | exact trivial | rfl | apply And.intro)) (by repeat' (first | exact trivial | rfl | apply And.intro)) rfl) rfl ⟨rfl, rfl, rfl⟩)
  | succ f IH =>
    intro t l ht hf hl
    have LL : (l.map encI).length = l.length := List.length_map ..
    have hd := dfs_pos (p := parF s) (n := s.tops.length) (f := f + 1) (t := t)
    have hfull : toI (dfs (parF s) s.tops.length (f + 1) t) = (t : Int) :: toI ((((List.range s.tops.length).drop (t + 1)).filter (kid (parF s) t)).flatMap (dfs (parF s) s.tops.length f)) := by rw [dfs, kid_drop]; rfl
    refine good_of_m (fun _ => false) mixed tabOk Try.func37 rfl rfl Try.ntmps37 Try.results37 rfl rfl ?_
    (conv => whnf); (repeat' (first | (refine arith_i ⟨by omega, by omega⟩ ?_; conv => whnf) | (refine arith_u ⟨by omega, by omega⟩ ?_; conv => whnf) | (refine arith_8 ⟨by omega, by omega⟩ ?_; conv => whnf) | (refine need_i (by first | omega | (simp only [List.length_append, List.length_cons, List.length_nil, List.length_map, List.length_replicate, List.length_modify]; omega)) ?_; conv => whnf) | ((with_reducible refine branch_tt ?_); conv => whnf) | ((with_reducible refine branch_ff ?_); conv => whnf) | (with_reducible refine branch_not ?_) | ((simp only [toI_snoc]); conv => whnf) | ((with_reducible refine slc_e ?_); conv => whnf) | ((with_reducible refine callS_a ?_); conv => whnf) | ((with_reducible refine bld_a ?_); conv => whnf) | ((with_reducible refine own_e ?_); conv => whnf) | ((with_reducible refine mkmap_b ?_); conv => whnf) | ((with_reducible refine branch_d (fun hq => ?_) (fun hq => ?_)) <;> (try (exfalso; omega)) <;> (conv => whnf)) | ((with_reducible refine branch_e (fun hq => ?_) (fun hq => ?_)) <;> (try (exfalso; omega)) <;> (conv => whnf)) | ((with_reducible refine branch_n (fun hq => ?_) (fun hq => ?_)) <;> (try (exfalso; omega)) <;> (conv => whnf)) | ((with_reducible refine branch_i (fun hq => ?_) (fun hq => ?_)) <;> (try (exfalso; omega)) <;> (conv => whnf))))
    refine loop_i2 (fun (k : Nat) (l' : List Int) => t + 1 ≤ k ∧ k ≤ s.tops.length ∧ l' ++ toI ((((List.range s.tops.length).drop k).filter (kid (parF s) t)).flatMap (dfs (parF s) s.tops.length f)) = l ++ toI (dfs (parF s) s.tops.length (f + 1) t))
      (fun k l' => mkSt [(0, .int .i64 t), (2, .ptr 1001 0), (3, .ptr 1002 0), (5, .int .i64 k)] (wBx s l') false) (fun k _ => s.tops.length - k) (t + 1) (l ++ [(t : Int)]) ⟨Nat.le_refl _, by omega, by rw [hfull]; simp⟩ (by rw [Int.natCast_add]; exact (le_mk (by repeat' (first | exact trivial | rfl | apply And.intro)) (by repeat' (first | exact trivial | rfl | apply And.intro)) rfl)) ?_
    rintro k l' ⟨hk1, hk2, hE⟩
    have hlen := congrArg List.length hE
    simp only [List.length_append, toI, List.length_map] at hlen
    by_cases hkn : k < s.tops.length
    · have hdr : (List.range s.tops.length).drop k = k :: (List.range s.tops.length).drop (k + 1) := drop_at (by simp [hkn])
      rw [hdr] at hE hlen
      obtain ⟨y, hy⟩ : ∃ y, s.tops[k]? = some y := ⟨_, List.getElem?_eq_getElem hkn⟩
      have hp := par_at hy
      by_cases hq0 : y.parent = t
      · have hkid : kid (parF s) t k = true := by simp [kid]; omega
        rw [List.filter_cons_of_pos hkid, List.flatMap_cons] at hE hlen
        rw [List.length_append] at hlen
        have hI := IH k l' hkn (by omega) (by omega)
        (conv => whnf); (repeat' (first | (refine arith_i ⟨by omega, by omega⟩ ?_; conv => whnf) | (refine arith_u ⟨by omega, by omega⟩ ?_; conv => whnf) | (refine arith_8 ⟨by omega, by omega⟩ ?_; conv => whnf) | (refine need_i (by first | omega | (simp only [List.length_append, List.length_cons, List.length_nil, List.length_map, List.length_replicate, List.length_modify]; omega)) ?_; conv => whnf) | ((with_reducible refine branch_tt ?_); conv => whnf) | ((with_reducible refine branch_ff ?_); conv => whnf) | (with_reducible refine branch_not ?_) | ((refine idx_cs hy ?_); conv => whnf) | (((refine mcall_e [(1000, 1000), (1001, 1001), (1002, 1002)] [(1100, 1100)] hI rfl rfl rfl ⟨⟨_, rfl, rfl, rfl⟩, ⟨_, rfl, rfl, rfl⟩, ⟨_, rfl, rfl, rfl⟩, trivial⟩ rfl ?_)); conv => whnf) | ((with_reducible refine slc_e ?_); conv => whnf) | ((with_reducible refine callS_a ?_); conv => whnf) | ((with_reducible refine bld_a ?_); conv => whnf) | ((with_reducible refine own_e ?_); conv => whnf) | ((with_reducible refine mkmap_b ?_); conv => whnf) | ((with_reducible refine branch_d (fun hq => ?_) (fun hq => ?_)) <;> (try (exfalso; omega)) <;> (conv => whnf)) | ((with_reducible refine branch_e (fun hq => ?_) (fun hq => ?_)) <;> (try (exfalso; omega)) <;> (conv => whnf)) | ((with_reducible refine branch_n (fun hq => ?_) (fun hq => ?_)) <;> (try (exfalso; omega)) <;> (conv => whnf)) | ((with_reducible refine branch_i (fun hq => ?_) (fun hq => ?_)) <;> (try (exfalso; omega)) <;> (conv => whnf))))
        all_goals first
          | (exfalso; omega)
          | exact ⟨k + 1, l' ++ toI (dfs (parF s) s.tops.length f k), ⟨by omega, by omega, by rw [← hE]; simp [toI]⟩, by rw [Int.natCast_add]; exact (le_mk (by repeat' (first | exact trivial | rfl | apply And.intro)) (by repeat' (first | exact trivial | rfl | apply And.intro)) rfl), by omega⟩
      · have hkid : ¬ kid (parF s) t k = true := by simp [kid]; omega
        rw [List.filter_cons_of_neg hkid] at hE
        (conv => whnf); (repeat' (first | (refine arith_i ⟨by omega, by omega⟩ ?_; conv => whnf) | (refine arith_u ⟨by omega, by omega⟩ ?_; conv => whnf) | (refine arith_8 ⟨by omega, by omega⟩ ?_; conv => whnf) | (refine need_i (by first | omega | (simp only [List.length_append, List.length_cons, List.length_nil, List.length_map, List.length_replicate, List.length_modify]; omega)) ?_; conv => whnf) | ((with_reducible refine branch_tt ?_); conv => whnf) | ((with_reducible refine branch_ff ?_); conv => whnf) | (with_reducible refine branch_not ?_) | ((refine idx_cs hy ?_); conv => whnf) | ((with_reducible refine slc_e ?_); conv => whnf) | ((with_reducible refine callS_a ?_); conv => whnf) | ((with_reducible refine bld_a ?_); conv => whnf) | ((with_reducible refine own_e ?_); conv => whnf) | ((with_reducible refine mkmap_b ?_); conv => whnf) | ((with_reducible refine branch_d (fun hq => ?_) (fun hq => ?_)) <;> (try (exfalso; omega)) <;> (conv => whnf)) | ((with_reducible refine branch_e (fun hq => ?_) (fun hq => ?_)) <;> (try (exfalso; omega)) <;> (conv => whnf)) | ((with_reducible refine branch_n (fun hq => ?_) (fun hq => ?_)) <;> (try (exfalso; omega)) <;> (conv => whnf)) | ((with_reducible refine branch_i (fun hq => ?_) (fun hq => ?_)) <;> (try (exfalso; omega)) <;> (conv => whnf))))
        all_goals first
          | (exfalso; omega)
          | exact ⟨k + 1, l', ⟨by omega, by omega, hE⟩, by rw [Int.natCast_add]; exact (le_mk (by repeat' (first | exact trivial | rfl | apply And.intro)) (by repeat' (first | exact trivial | rfl | apply And.intro)) rfl), by omega⟩
    · have hdr : (List.range s.tops.length).drop k = [] := drop_end (by simp; omega)
      rw [hdr] at hE
      have hE' : l' = l ++ toI (dfs (parF s) s.tops.length (f + 1) t) := by rw [← hE]; simp [toI]
      (conv => whnf); (repeat' (first | (refine arith_i ⟨by omega, by omega⟩ ?_; conv => whnf) | (refine arith_u ⟨by omega, by omega⟩ ?_; conv => whnf) | (refine arith_8 ⟨by omega, by omega⟩ ?_; conv => whnf) | (refine need_i (by first | omega | (simp only [List.length_append, List.length_cons, List.length_nil, List.length_map, List.length_replicate, List.length_modify]; omega)) ?_; conv => whnf) | ((with_reducible refine branch_tt ?_); conv => whnf) | ((with_reducible refine branch_ff ?_); conv => whnf) | (with_reducible refine branch_not ?_) | (((refine idx_c (xs := s.tops) (by omega) fun y hy => ?_)); conv => whnf) | ((with_reducible refine slc_e ?_); conv => whnf) | ((with_reducible refine callS_a ?_); conv => whnf) | ((with_reducible refine bld_a ?_); conv => whnf) | ((with_reducible refine own_e ?_); conv => whnf) | ((with_reducible refine mkmap_b ?_); conv => whnf) | ((with_reducible refine branch_d (fun hq => ?_) (fun hq => ?_)) <;> (try (exfalso; omega)) <;> (conv => whnf)) | ((with_reducible refine branch_e (fun hq => ?_) (fun hq => ?_)) <;> (try (exfalso; omega)) <;> (conv => whnf)) | ((with_reducible refine branch_n (fun hq => ?_) (fun hq => ?_)) <;> (try (exfalso; omega)) <;> (conv => whnf)) | ((with_reducible refine branch_i (fun hq => ?_) (fun hq => ?_)) <;> (try (exfalso; omega)) <;> (conv => whnf))))
      all_goals first
        | (exfalso; omega)
        | (rw [← hE']
           exact retM_i (.tup []) [] (wBx s l') rfl (le_mk (by repeat' (first | exact trivial | rfl | apply And.intro)) (by repeat' (first | exact trivial | rfl | apply And.intro)) rfl) rfl ⟨rfl, rfl, rfl⟩)
end Go.Proofs.Ytkmagoljpfpgmaa
