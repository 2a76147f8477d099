/- Layer 25: the examples of the chapter. -/
import Derived.Test.YtkbkdlkfpmcmdaaGL25w
import Derived.Test.YtkbkdlkfpmcmdaaGL25x
import Derived.Test.YtkbkdlkfpmcmdaaGL25t
namespace Go.Proofs.Ytkbkdlkfpmcmdaa
set_option linter.unusedVariables false
set_option linter.unusedSimpArgs false
set_option linter.unnecessarySimpa false
set_option linter.unusedSectionVars false
set_option maxRecDepth 10000
open Go.RowKit
theorem allM_good {c : Int} (hc : 0 ≤ c ∧ c ≤ 60) {d : Int} (hd : -1 ≤ d ∧ d ≤ 99) {i : Int} (hi : 1 ≤ i ∧ i ≤ 99) : GoodMk ⟨i, d, 1, c, [0]⟩ := by
  refine ⟨hi, hd, by simp, hc, fun k x hx => ?_, fun k h0 hk => ?_, by simp⟩
  · have hm := List.mem_of_getElem? hx
    simp only [List.mem_cons, List.not_mem_nil, or_false] at hm
    subst hm; decide
  · simp at hk; omega
theorem allL_ok {c : Int} (hc : 0 ≤ c ∧ c ≤ 60) {n : Nat} (hn : n ≤ 9) : MksOk (allL c n) := by
  have hat : ∀ (k : Nat) (m : Mrk), (allL c n)[k]? = some m → k < n ∧ m = allM c k := fun k m h => by
    rw [allL, List.getElem?_map, Option.map_eq_some_iff] at h
    obtain ⟨j, hj, rfl⟩ := h
    obtain ⟨h1, h2⟩ := List.getElem?_eq_some_iff.1 hj
    simp at h1 h2; subst h2; exact ⟨h1, rfl⟩
  refine ⟨by simp [allL]; omega, fun k m h => ?_, fun i j a b hij ha hb => ?_⟩
  · obtain ⟨h1, rfl⟩ := hat k m h
    exact allM_good hc (by omega) (by omega)
  · obtain ⟨h1, rfl⟩ := hat i a ha
    obtain ⟨h2, rfl⟩ := hat j b hb
    show (1 + i : Int) < 1 + j; omega
theorem scrL_ok {c : Int} (hc : 0 ≤ c ∧ c ≤ 99) {n : Nat} (hn : n ≤ 9) : ScsOk (scrL c n) := by
  have hat : ∀ (k : Nat) (m : Scr), (scrL c n)[k]? = some m → k < n ∧ m = scrM c k := fun k m h => by
    rw [scrL, List.getElem?_map, Option.map_eq_some_iff] at h
    obtain ⟨j, hj, rfl⟩ := h
    obtain ⟨h1, h2⟩ := List.getElem?_eq_some_iff.1 hj
    simp at h1 h2; subst h2; exact ⟨h1, rfl⟩
  refine ⟨by simp [scrL]; omega, fun k m h => ?_, fun k a b ha hb => ?_⟩
  · obtain ⟨h1, rfl⟩ := hat k m h
    exact ⟨⟨rfl, by simp only [scrM]; omega, hc, by simp [scrM], by simp only [scrM]; omega⟩, by simp [scrM]⟩
  · obtain ⟨h1, rfl⟩ := hat k a ha
    obtain ⟨h2, rfl⟩ := hat (k + 1) b hb
    show (1 + k : Int) < 1 + (k + 1 : Nat); omega
def ownL : List Mrk := [⟨1, 5, 1, 9, [0]⟩]
theorem ownL_ok : MksOk ownL := by
  refine ⟨by decide, fun k m h => ?_, fun i j a b hij ha hb => ?_⟩
  · have hm := List.mem_of_getElem? h
    simp only [ownL, List.mem_cons, List.not_mem_nil, or_false] at hm
    subst hm; exact allM_good (by decide) (by decide) (by decide)
  · have h1 := (List.getElem?_eq_some_iff.1 ha).1
    have h2 := (List.getElem?_eq_some_iff.1 hb).1
    simp only [ownL, List.length_cons, List.length_nil] at h1 h2
    omega
theorem v1 : lstF (allL 9 3) (scrL 5 3) 2 = some 2 := by decide +kernel
theorem v2 : lstF ownL (scrL 5 2) 1 = none := by decide +kernel
theorem v3 : witP ownL (scrL 5 2) 1 = (some 0, (witP ownL (scrL 5 2) 1).2) ∧ setW ownL 0 (witP ownL (scrL 5 2) 1).2 2 = [0] := ⟨Prod.ext (by decide +kernel) rfl, by decide +kernel⟩
theorem v4 : witV ownL (scrL 5 2) 1 = .tup [ints [0], .bool true] := by
  rw [witV, if_pos (by decide), show (1 : Int).toNat = 1 from rfl, v3.1]
  show AV.tup [ints (setW ownL 0 (witP ownL (scrL 5 2) 1).2 2), .bool true] = _
  rw [v3.2]
theorem v5 : shortB ownL (scrL 5 2) 1 [1] = true := by decide +kernel
theorem v6 {F : Flw} (hU : Upto (elF (allL 9 3) (scrL 5 3)) (limF (capF (allL 9 3)) 2) 3 3 2 3 F) : loadF (tasksT (allL 9 3) (scrL 5 3) F.A 3) 1 = 2 := by
  have h0 : (allL 9 3)[0]? = some (allM 9 0) := rfl
  have e := (alloc_load (l := allL 9 3) (s := scrL 5 3) (allL_ok (by decide) (by decide)) hU h0).1
  have hm : ∀ m, m < 3 → colN 3 F.A m ≤ 2 := fun m hm => by
    have h1 := hU.wf.lim m hm
    rw [← hU.wf.col m hm] at h1
    simp only [limF] at h1; omega
  have hs : sumN 3 (fun i => rowN 3 F.A i) = sumN 3 (fun m => colN 3 F.A m) := sumN_comm
  have hr : sumN 3 (fun i => rowN 3 F.A i) = 6 := (sumN_const fun i hi => by rw [hU.row i hi, if_pos hi]).trans rfl
  have h2 : sumN 3 (fun m => colN 3 F.A m) = colN 3 F.A 0 + colN 3 F.A 1 + colN 3 F.A 2 := by simp [sumN]
  have a0 := hm 0 (by omega)
  have a1 := hm 1 (by omega)
  have a2 := hm 2 (by omega)
  refine e.trans ?_
  show colN 3 F.A 0 = 2
  omega
set_option maxHeartbeats 8000000 in
theorem sane_ok : Good Try.prog TT false 12 [] (· = .bool true) := by
  have hA := allL_ok (c := 9) (by decide) (n := 3) (by decide)
  have hS := scrL_ok (c := 5) (by decide) (n := 3) (by decide)
  have hS2 := scrL_ok (c := 5) (by decide) (n := 2) (by decide)
  have hO := ownL_ok
  refine good_of mixed tabOk Try.func12 rfl rfl Try.ntmps12 Try.results12 rfl rfl ?_
  (conv => whnf); (repeat' (first | (refine arith_i ⟨by omega, by omega⟩ ?_; conv => whnf) | (refine arith_u ⟨by omega, by omega⟩ ?_; conv => whnf) | (refine arith_8 ⟨by omega, by omega⟩ ?_; conv => whnf) | (refine need_i (by first | omega | (simp only [List.length_cons, List.length_nil]; omega) | (simp only [List.length_append, List.length_cons, List.length_nil, List.length_map, List.length_replicate, List.length_modify]; omega)) ?_; conv => whnf) | ((with_reducible refine branch_tt ?_); conv => whnf) | ((with_reducible refine branch_ff ?_); conv => whnf) | (with_reducible refine branch_not ?_) | ((refine call_e (all_ok 3 9 (by decide)) ?_); conv => whnf) | ((refine call_e (scripts25_ok 3 5 (by decide)) ?_); conv => whnf) | ((refine call_e ((least_ok (allL 9 3) (scrL 5 3) 2 hA hS).mono fun r h => h.trans (by rw [v1]; rfl : _ = AV.tup [.int .i64 2, .bool true])) ?_); conv => whnf) | (((refine call_i (allocate_ok (allL 9 3) (scrL 5 3) 2 hA hS) fun r hr => ?_; rcases hr with ⟨h1, -⟩ | ⟨h1, h2, -⟩ | ⟨a, F, h1, h2, hU, rfl⟩; (cases h1); (rw [v1] at h2; cases h2); (rw [v1] at h2; injection h2 with h2; subst h2; have hts : (List.map encT (tasksT (allL 9 3) (scrL 5 3) F.A (scrL 5 3).length)).length = 6 := by rw [List.length_map, alloc_len hU]; rfl))); conv => whnf) | ((refine call_e (all_ok 1 9 (by decide)) ?_); conv => whnf) | ((refine idx_ms (xs := allL 9 1) (x := allM 9 0) (by decide) rfl ?_); conv => whnf) | ((refine call_e (scripts25_ok 2 5 (by decide)) ?_); conv => whnf) | ((refine call_e ((least_ok ownL (scrL 5 2) 1 hO hS2).mono fun r h => h.trans (by rw [v2]; rfl : _ = AV.tup [.int .i64 0, .bool false])) ?_); conv => whnf) | ((refine call_e ((witness_ok ownL (scrL 5 2) 1 hO hS2).mono fun r h => h.trans v4) ?_); conv => whnf) | ((refine call_e ((aCheck_ok (allL 9 3) (scrL 5 3) 2 _ (by rw [List.length_map] at hts; omega) hA hS).mono fun r h => h.trans (int_eq (alloc_check (q := 2) hA hS (by decide) (by decide) hU))) ?_); conv => whnf) | ((refine call_e ((short_ok ownL (scrL 5 2) 1 [1] (by decide) hO hS2).mono fun r h => h.trans (bool_eq v5)) ?_); conv => whnf) | ((refine call_e ((load_ok _ 1 (by rw [List.length_map] at hts; omega)).mono fun r h => h.trans (int_eq (congrArg Int.ofNat (v6 hU)))) ?_); conv => whnf) | ((with_reducible refine slc_e ?_); conv => whnf) | ((with_reducible refine callS_a ?_); conv => whnf) | ((with_reducible refine bld_a ?_); conv => whnf) | ((with_reducible refine own_e ?_); conv => whnf) | ((with_reducible refine mkmap_b ?_); conv => whnf) | ((with_reducible refine branch_d (fun hq => ?_) (fun hq => ?_)) <;> (try (exfalso; omega)) <;> (conv => whnf)) | ((with_reducible refine branch_e (fun hq => ?_) (fun hq => ?_)) <;> (try (exfalso; omega)) <;> (conv => whnf)) | ((with_reducible refine branch_n (fun hq => ?_) (fun hq => ?_)) <;> (try (exfalso; omega)) <;> (conv => whnf)) | ((with_reducible refine branch_i (fun hq => ?_) (fun hq => ?_)) <;> (try (exfalso; omega)) <;> (conv => whnf))))
  · exact ret_p rfl rfl
  · rename_i hq
    exact absurd (show (0 : Int) < ((List.map encI [0]).length : Int) by decide) hq
end Go.Proofs.Ytkbkdlkfpmcmdaa
