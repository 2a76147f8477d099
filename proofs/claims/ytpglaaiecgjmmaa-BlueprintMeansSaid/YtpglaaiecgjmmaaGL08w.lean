/- Layer 8: counting directly: marks, wanted. -/
import Derived.Test.YtpglaaiecgjmmaaGL08v
namespace Go.Proofs.Ytpglaaiecgjmmaa
set_option linter.unusedVariables false
set_option linter.unusedSimpArgs false
set_option linter.unnecessarySimpa false
set_option linter.unusedSectionVars false
set_option maxRecDepth 10000
open Go.RowKit
theorem chs_mem {l : List Itm} {ch : List Int} {k : Nat} {c : Int} {x : Itm} (hc : ch[k]? = some c) (hx : l[c.toNat]? = some x) : (chsF l ch)[k]? = some x := by
  rw [chsF, List.getElem?_map, hc]; simp [itmAt_eq hx]
theorem tot_abs {α : Type} {f : α → Int} {m : Int} (hm : 0 ≤ m) {l : List α} (h : ∀ x ∈ l, 0 ≤ f x ∧ f x ≤ m) (k : Nat) : 0 ≤ tot f (l.take k) ∧ tot f (l.take k) ≤ m * l.length := by
  have h1 := tot_bd hm (l := l.take k) fun x hx => h x (List.mem_of_mem_take hx)
  have h2 : m * ((l.take k).length : Int) ≤ m * l.length := Int.mul_le_mul_of_nonneg_left (by rw [List.length_take]; omega) hm
  omega
set_option maxHeartbeats 4000000 in
theorem lmarks_ok (l : List Itm) (ch : List Int) (i : Int) (t : Bool) (hl : l.length ≤ 12) (hcl : ch.length ≤ 12) (h0 : ∀ x ∈ l, itemF x = 0) (hc : ∀ c ∈ ch, 0 ≤ c ∧ c < (l.length : Int)) : Good Try.prog TT false 104 [itmsV l, ints ch, .int .i64 i, .bool t] (· = .int .i64 (tot (marksF t i) (chsF l ch))) := by
  have LI : (l.map encX).length = l.length := List.length_map ..
  have LC : (ch.map encI).length = ch.length := List.length_map ..
  have hx0 : ∀ x ∈ chsF l ch, 0 ≤ marksF t i x ∧ marksF t i x ≤ 240 := fun x hx => by
    obtain ⟨c, hcc, rfl⟩ := List.mem_map.1 hx
    have hci := hc c hcc
    have hg : itmAt l c.toNat ∈ l := by
      rw [itmAt_eq (List.getElem?_eq_getElem (show c.toNat < l.length by omega))]; exact List.getElem_mem _
    have := mark_bd (h0 _ hg) (t := t) (i := i) (itmAt l c.toNat).parts.length
    rw [tot_end (Nat.le_refl _)] at this
    exact this
  have hbd := tot_abs (by omega) hx0
  rw [chsF_len] at hbd
  cases t
  all_goals
    refine good_of mixed tabOk Try.func104 rfl rfl Try.ntmps104 Try.results104 rfl rfl ?_
    (conv => whnf); (repeat' (first | (refine arith_i ⟨by omega, by omega⟩ ?_; conv => whnf) | (refine arith_u ⟨by omega, by omega⟩ ?_; conv => whnf) | (refine arith_8 ⟨by omega, by omega⟩ ?_; conv => whnf) | (refine need_i (by first | omega | (simp only [List.length_append, List.length_cons, List.length_nil, List.length_map, List.length_replicate, List.length_modify]; omega)) ?_; conv => whnf) | ((with_reducible refine branch_tt ?_); conv => whnf) | ((with_reducible refine branch_ff ?_); conv => whnf) | (with_reducible refine branch_not ?_) | ((with_reducible refine slc_e ?_); conv => whnf) | ((with_reducible refine callS_a ?_); conv => whnf) | ((with_reducible refine own_e ?_); conv => whnf) | ((with_reducible refine branch_d (fun hq => ?_) (fun hq => ?_)) <;> (try (exfalso; omega)) <;> (conv => whnf)) | ((with_reducible refine branch_e (fun hq => ?_) (fun hq => ?_)) <;> (try (exfalso; omega)) <;> (conv => whnf)) | ((with_reducible refine branch_n (fun hq => ?_) (fun hq => ?_)) <;> (try (exfalso; omega)) <;> (conv => whnf)) | ((with_reducible refine branch_i (fun hq => ?_) (fun hq => ?_)) <;> (try (exfalso; omega)) <;> (conv => whnf))))
  · refine loop_i (fun k : Nat => k ≤ ch.length) (fun k => mkSt [(0, itmsV l), (1, ints ch), (2, .int .i64 i), (3, .bool false), (9, .int .i64 (tot (marksF false i) ((chsF l ch).take k))), (10, .int .i64 k)] [] false) (fun k => ch.length - k) 0 (Nat.zero_le _) (le_mk (by repeat' (first | exact trivial | rfl | apply And.intro)) (by repeat' (first | exact trivial | rfl | apply And.intro)) rfl) ?_
    intro k hk
    have hbk := hbd k
    have hbk1 := hbd (k + 1)
    (conv => whnf); (repeat' (first | (refine arith_i ⟨by omega, by omega⟩ ?_; conv => whnf) | (refine arith_u ⟨by omega, by omega⟩ ?_; conv => whnf) | (refine arith_8 ⟨by omega, by omega⟩ ?_; conv => whnf) | (refine need_i (by first | omega | (simp only [List.length_append, List.length_cons, List.length_nil, List.length_map, List.length_replicate, List.length_modify]; omega)) ?_; conv => whnf) | ((with_reducible refine branch_tt ?_); conv => whnf) | ((with_reducible refine branch_ff ?_); conv => whnf) | (with_reducible refine branch_not ?_) | (((refine idx_c (xs := ch) (by omega) fun c hcc => ?_; have hci := hc c (List.mem_of_getElem? hcc))); conv => whnf) | (((refine idx_m (xs := l) (by omega) (by omega) fun x hx => ?_; have hxg := h0 x (List.mem_of_getElem? hx); have htk := tot_take (f := marksF false i) (chs_mem hcc hx))); conv => whnf) | ((with_reducible refine slc_e ?_); conv => whnf) | ((with_reducible refine callS_a ?_); conv => whnf) | ((with_reducible refine own_e ?_); conv => whnf) | ((with_reducible refine branch_d (fun hq => ?_) (fun hq => ?_)) <;> (try (exfalso; omega)) <;> (conv => whnf)) | ((with_reducible refine branch_e (fun hq => ?_) (fun hq => ?_)) <;> (try (exfalso; omega)) <;> (conv => whnf)) | ((with_reducible refine branch_n (fun hq => ?_) (fun hq => ?_)) <;> (try (exfalso; omega)) <;> (conv => whnf)) | ((with_reducible refine branch_i (fun hq => ?_) (fun hq => ?_)) <;> (try (exfalso; omega)) <;> (conv => whnf))))
    · have hmb := mark_bd hxg (t := false) (i := i)
      refine loop_i (fun j : Nat => j ≤ x.parts.length) (fun j => mkSt [(0, itmsV l), (1, ints ch), (2, .int .i64 i), (3, .bool false), (9, .int .i64 (tot (marksF false i) ((chsF l ch).take k) + tot (markT false i) (x.parts.take j))), (10, .int .i64 k), (11, .lst 6 (x.parts.map encPt)), (12, .int .i64 j)] [] false) (fun j => x.parts.length - j) 0 (Nat.zero_le _) (le_mk ⟨rfl, rfl, rfl, rfl, int_eq (Int.add_zero _).symm, rfl, rfl, rfl, trivial⟩ trivial rfl) ?_
      intro j hj
      have hp6 := (itemF_ok hxg).1
      have LP : (x.parts.map encPt).length = x.parts.length := List.length_map ..
      have hmj := hmb j
      have hmj1 := hmb (j + 1)
      (conv => whnf); (repeat' (first | (refine arith_i ⟨by omega, by omega⟩ ?_; conv => whnf) | (refine arith_u ⟨by omega, by omega⟩ ?_; conv => whnf) | (refine arith_8 ⟨by omega, by omega⟩ ?_; conv => whnf) | (refine need_i (by first | omega | (simp only [List.length_append, List.length_cons, List.length_nil, List.length_map, List.length_replicate, List.length_modify]; omega)) ?_; conv => whnf) | ((with_reducible refine branch_tt ?_); conv => whnf) | ((with_reducible refine branch_ff ?_); conv => whnf) | (with_reducible refine branch_not ?_) | ((refine idx_cs (by assumption) ?_); conv => whnf) | (((refine idx_c (xs := x.parts) (by omega) fun p hp => ?_; have htj := tot_take (f := markT false i) hp; have hm1 : p.obj = i → markT false i p = p.max := (fun e => if_pos e); have hm2 : p.obj ≠ i → markT false i p = 0 := (fun e => if_neg e); have hpm := part_mem hxg (List.mem_of_getElem? hp))); conv => whnf) | ((with_reducible refine slc_e ?_); conv => whnf) | ((with_reducible refine callS_a ?_); conv => whnf) | ((with_reducible refine own_e ?_); conv => whnf) | ((with_reducible refine branch_d (fun hq => ?_) (fun hq => ?_)) <;> (try (exfalso; omega)) <;> (conv => whnf)) | ((with_reducible refine branch_e (fun hq => ?_) (fun hq => ?_)) <;> (try (exfalso; omega)) <;> (conv => whnf)) | ((with_reducible refine branch_n (fun hq => ?_) (fun hq => ?_)) <;> (try (exfalso; omega)) <;> (conv => whnf)) | ((with_reducible refine branch_i (fun hq => ?_) (fun hq => ?_)) <;> (try (exfalso; omega)) <;> (conv => whnf))))
      all_goals first
        | exact ⟨j + 1, by omega, le_mk ⟨rfl, rfl, rfl, rfl, by rw [htj, hm1 (by assumption), ← Int.add_assoc]; rfl, rfl, rfl, by rw [Int.natCast_add]; rfl, trivial⟩ trivial rfl, by omega⟩
        | exact ⟨j + 1, by omega, le_mk ⟨rfl, rfl, rfl, rfl, by rw [htj, hm2 (by assumption), Int.add_zero]; rfl, rfl, rfl, by rw [Int.natCast_add]; rfl, trivial⟩ trivial rfl, by omega⟩
        | (have hpe : tot (markT false i) (x.parts.take j) = marksF false i x := tot_end (by omega)
           rw [hpe, ← htk]
           exact ⟨k + 1, by omega, le_mk ⟨rfl, rfl, rfl, rfl, rfl, by rw [Int.natCast_add]; rfl, trivial⟩ trivial rfl, by omega⟩)
        | trace_state
    · exact ret_p rfl (int_eq (tot_end (by rw [chsF_len]; omega)))
  · refine loop_i (fun k : Nat => k ≤ ch.length) (fun k => mkSt [(0, itmsV l), (1, ints ch), (2, .int .i64 i), (3, .bool true), (9, .int .i64 (tot (marksF true i) ((chsF l ch).take k))), (10, .int .i64 k)] [] false) (fun k => ch.length - k) 0 (Nat.zero_le _) (le_mk (by repeat' (first | exact trivial | rfl | apply And.intro)) (by repeat' (first | exact trivial | rfl | apply And.intro)) rfl) ?_
    intro k hk
    have hbk := hbd k
    have hbk1 := hbd (k + 1)
    (conv => whnf); (repeat' (first | (refine arith_i ⟨by omega, by omega⟩ ?_; conv => whnf) | (refine arith_u ⟨by omega, by omega⟩ ?_; conv => whnf) | (refine arith_8 ⟨by omega, by omega⟩ ?_; conv => whnf) | (refine need_i (by first | omega | (simp only [List.length_append, List.length_cons, List.length_nil, List.length_map, List.length_replicate, List.length_modify]; omega)) ?_; conv => whnf) | ((with_reducible refine branch_tt ?_); conv => whnf) | ((with_reducible refine branch_ff ?_); conv => whnf) | (with_reducible refine branch_not ?_) | (((refine idx_c (xs := ch) (by omega) fun c hcc => ?_; have hci := hc c (List.mem_of_getElem? hcc))); conv => whnf) | (((refine idx_m (xs := l) (by omega) (by omega) fun x hx => ?_; have hxg := h0 x (List.mem_of_getElem? hx); have htk := tot_take (f := marksF true i) (chs_mem hcc hx))); conv => whnf) | ((with_reducible refine slc_e ?_); conv => whnf) | ((with_reducible refine callS_a ?_); conv => whnf) | ((with_reducible refine own_e ?_); conv => whnf) | ((with_reducible refine branch_d (fun hq => ?_) (fun hq => ?_)) <;> (try (exfalso; omega)) <;> (conv => whnf)) | ((with_reducible refine branch_e (fun hq => ?_) (fun hq => ?_)) <;> (try (exfalso; omega)) <;> (conv => whnf)) | ((with_reducible refine branch_n (fun hq => ?_) (fun hq => ?_)) <;> (try (exfalso; omega)) <;> (conv => whnf)) | ((with_reducible refine branch_i (fun hq => ?_) (fun hq => ?_)) <;> (try (exfalso; omega)) <;> (conv => whnf))))
    · have hmb := mark_bd hxg (t := true) (i := i)
      refine loop_i (fun j : Nat => j ≤ x.parts.length) (fun j => mkSt [(0, itmsV l), (1, ints ch), (2, .int .i64 i), (3, .bool true), (9, .int .i64 (tot (marksF true i) ((chsF l ch).take k) + tot (markT true i) (x.parts.take j))), (10, .int .i64 k), (11, .lst 6 (x.parts.map encPt)), (12, .int .i64 j)] [] false) (fun j => x.parts.length - j) 0 (Nat.zero_le _) (le_mk ⟨rfl, rfl, rfl, rfl, int_eq (Int.add_zero _).symm, rfl, rfl, rfl, trivial⟩ trivial rfl) ?_
      intro j hj
      have hp6 := (itemF_ok hxg).1
      have LP : (x.parts.map encPt).length = x.parts.length := List.length_map ..
      have hmj := hmb j
      have hmj1 := hmb (j + 1)
      (conv => whnf); (repeat' (first | (refine arith_i ⟨by omega, by omega⟩ ?_; conv => whnf) | (refine arith_u ⟨by omega, by omega⟩ ?_; conv => whnf) | (refine arith_8 ⟨by omega, by omega⟩ ?_; conv => whnf) | (refine need_i (by first | omega | (simp only [List.length_append, List.length_cons, List.length_nil, List.length_map, List.length_replicate, List.length_modify]; omega)) ?_; conv => whnf) | ((with_reducible refine branch_tt ?_); conv => whnf) | ((with_reducible refine branch_ff ?_); conv => whnf) | (with_reducible refine branch_not ?_) | ((refine idx_cs (by assumption) ?_); conv => whnf) | (((refine idx_c (xs := x.parts) (by omega) fun p hp => ?_; have htj := tot_take (f := markT true i) hp; have hm1 : p.topic = i → markT true i p = p.max := (fun e => if_pos e); have hm2 : p.topic ≠ i → markT true i p = 0 := (fun e => if_neg e); have hpm := part_mem hxg (List.mem_of_getElem? hp))); conv => whnf) | ((with_reducible refine slc_e ?_); conv => whnf) | ((with_reducible refine callS_a ?_); conv => whnf) | ((with_reducible refine own_e ?_); conv => whnf) | ((with_reducible refine branch_d (fun hq => ?_) (fun hq => ?_)) <;> (try (exfalso; omega)) <;> (conv => whnf)) | ((with_reducible refine branch_e (fun hq => ?_) (fun hq => ?_)) <;> (try (exfalso; omega)) <;> (conv => whnf)) | ((with_reducible refine branch_n (fun hq => ?_) (fun hq => ?_)) <;> (try (exfalso; omega)) <;> (conv => whnf)) | ((with_reducible refine branch_i (fun hq => ?_) (fun hq => ?_)) <;> (try (exfalso; omega)) <;> (conv => whnf))))
      all_goals first
        | exact ⟨j + 1, by omega, le_mk ⟨rfl, rfl, rfl, rfl, by rw [htj, hm1 (by assumption), ← Int.add_assoc]; rfl, rfl, rfl, by rw [Int.natCast_add]; rfl, trivial⟩ trivial rfl, by omega⟩
        | exact ⟨j + 1, by omega, le_mk ⟨rfl, rfl, rfl, rfl, by rw [htj, hm2 (by assumption), Int.add_zero]; rfl, rfl, rfl, by rw [Int.natCast_add]; rfl, trivial⟩ trivial rfl, by omega⟩
        | (have hpe : tot (markT true i) (x.parts.take j) = marksF true i x := tot_end (by omega)
           rw [hpe, ← htk]
           exact ⟨k + 1, by omega, le_mk ⟨rfl, rfl, rfl, rfl, rfl, by rw [Int.natCast_add]; rfl, trivial⟩ trivial rfl, by omega⟩)
        | trace_state
    · exact ret_p rfl (int_eq (tot_end (by rw [chsF_len]; omega)))
end Go.Proofs.Ytpglaaiecgjmmaa
