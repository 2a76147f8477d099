/- Layer 5: Common and Leaves of both sides. -/
import Derived.Test.YtkmagoljpfpgmaaGL05s
namespace Go.Proofs.Ytkmagoljpfpgmaa
set_option linter.unusedVariables false
set_option linter.unusedSimpArgs false
set_option linter.unnecessarySimpa false
set_option linter.unusedSectionVars false
set_option maxRecDepth 10000
open Go.RowKit
def comI (p : Nat → Int) (n : Nat) (x y : Int) : Int := if x < 0 ∨ y < 0 then -1 else comN p x.toNat y.toNat n
def comF (s : Syl) (a b : Int) : Int := if topB s a = true ∧ topB s b = true then comI (parF s) s.tops.length a b else -1
theorem comI_left {p : Nat → Int} (hp : ∀ k, -1 ≤ p k ∧ p k < k) {n : Nat} {x y : Int} (h : y < x) (hx : 0 ≤ x) (hxn : x < n) : comI p n x y = comI p n (p x.toNat) y := by
  unfold comI
  have := hp x.toNat
  by_cases hy : y < 0
  · rw [if_pos (.inr hy), if_pos (.inr hy)]
  · rw [if_neg (by omega), com_up hp (b := y.toNat) (a := x.toNat) (n := n) (by omega) (by omega)]
    by_cases h0 : p x.toNat < 0
    · rw [if_pos h0, if_pos (.inl h0)]
    · rw [if_neg h0, if_neg (by omega)]
theorem comI_comm {p : Nat → Int} {n : Nat} {x y : Int} : comI p n x y = comI p n y x := by
  unfold comI
  by_cases h : x < 0 ∨ y < 0
  · rw [if_pos h, if_pos h.symm]
  · rw [if_neg h, if_neg fun e => h e.symm, com_comm]
theorem comI_same {p : Nat → Int} (hp : ∀ k, -1 ≤ p k ∧ p k < k) {n : Nat} {x : Int} (hx : -1 ≤ x ∧ x < n) : comI p n x x = x := by
  unfold comI
  by_cases h : x < 0
  · rw [if_pos (.inl h)]; omega
  · rw [if_neg (by omega), com_same hp (by omega)]; omega
set_option maxHeartbeats 2000000 in
theorem comG_ok (s : Syl) (hs : ShortS s) (a b : Int) : Good Try.prog TT false 17 [sylV s, .int .i64 a, .int .i64 b] (· = .int .i64 (comF s a b)) := by
  have L1 : (s.tops.map encTpc).length = s.tops.length := List.length_map ..
  refine good_of mixed tabOk Try.func17 rfl rfl Try.ntmps17 Try.results17 rfl rfl ?_
  (conv => whnf); (repeat' (first | (refine arith_i ⟨by omega, by omega⟩ ?_; conv => whnf) | (refine arith_u ⟨by omega, by omega⟩ ?_; conv => whnf) | (refine arith_8 ⟨by omega, by omega⟩ ?_; conv => whnf) | (refine need_i (by first | omega | (simp only [List.length_append, List.length_cons, List.length_nil, List.length_map, List.length_replicate, List.length_modify]; omega)) ?_; conv => whnf) | ((with_reducible refine branch_tt ?_); conv => whnf) | ((with_reducible refine branch_ff ?_); conv => whnf) | (with_reducible refine branch_not ?_) | ((refine call_e (isTopicG_ok s hs a) ?_); conv => whnf) | ((refine call_e (isTopicG_ok s hs b) ?_); conv => whnf) | ((with_reducible refine slc_e ?_); conv => whnf) | ((with_reducible refine callS_a ?_); conv => whnf) | ((with_reducible refine bld_a ?_); conv => whnf) | ((with_reducible refine own_e ?_); conv => whnf) | ((with_reducible refine mkmap_b ?_); conv => whnf) | ((with_reducible refine branch_d (fun hq => ?_) (fun hq => ?_)) <;> (try (exfalso; omega)) <;> (conv => whnf)) | ((with_reducible refine branch_e (fun hq => ?_) (fun hq => ?_)) <;> (try (exfalso; omega)) <;> (conv => whnf)) | ((with_reducible refine branch_n (fun hq => ?_) (fun hq => ?_)) <;> (try (exfalso; omega)) <;> (conv => whnf)) | ((with_reducible refine branch_i (fun hq => ?_) (fun hq => ?_)) <;> (try (exfalso; omega)) <;> (conv => whnf))))
  · have hta : topB s a = true := by simp_all
    have htb : topB s b = true := by simp_all
    obtain ⟨⟨ha, ha'⟩, hc⟩ := topB_parts hta
    obtain ⟨⟨hb, hb'⟩, -⟩ := topB_parts htb
    have hV := par_valid hc
    have h1000 := hs.1
    refine loop_i2 (fun (x y : Int) => (-1 ≤ x ∧ x < s.tops.length) ∧ (-1 ≤ y ∧ y < s.tops.length) ∧ comI (parF s) s.tops.length x y = comF s a b) (fun x y => mkSt [(1, .int .i64 x), (2, .int .i64 y), (3, .ptr 3 0)] [(3, sylC s)] false) (fun x y => (x + 1).toNat + (y + 1).toNat) a b ⟨by omega, by omega, by rw [comF, if_pos ⟨hta, htb⟩]⟩ (le_mk (by repeat' (first | exact trivial | rfl | apply And.intro)) (by repeat' (first | exact trivial | rfl | apply And.intro)) rfl) ?_
    rintro x y ⟨hx, hy, hE⟩
    have hvx := hV x.toNat
    have hvy := hV y.toNat
    (conv => whnf); (repeat' (first | (refine arith_i ⟨by omega, by omega⟩ ?_; conv => whnf) | (refine arith_u ⟨by omega, by omega⟩ ?_; conv => whnf) | (refine arith_8 ⟨by omega, by omega⟩ ?_; conv => whnf) | (refine need_i (by first | omega | (simp only [List.length_append, List.length_cons, List.length_nil, List.length_map, List.length_replicate, List.length_modify]; omega)) ?_; conv => whnf) | ((with_reducible refine branch_tt ?_); conv => whnf) | ((with_reducible refine branch_ff ?_); conv => whnf) | (with_reducible refine branch_not ?_) | (((refine idx_m (xs := s.tops) (by omega) (by omega) fun u hu => ?_; have hpu := par_at hu)); conv => whnf) | ((with_reducible refine slc_e ?_); conv => whnf) | ((with_reducible refine callS_a ?_); conv => whnf) | ((with_reducible refine bld_a ?_); conv => whnf) | ((with_reducible refine own_e ?_); conv => whnf) | ((with_reducible refine mkmap_b ?_); conv => whnf) | ((with_reducible refine branch_d (fun hq => ?_) (fun hq => ?_)) <;> (try (exfalso; omega)) <;> (conv => whnf)) | ((with_reducible refine branch_e (fun hq => ?_) (fun hq => ?_)) <;> (try (exfalso; omega)) <;> (conv => whnf)) | ((with_reducible refine branch_n (fun hq => ?_) (fun hq => ?_)) <;> (try (exfalso; omega)) <;> (conv => whnf)) | ((with_reducible refine branch_i (fun hq => ?_) (fun hq => ?_)) <;> (try (exfalso; omega)) <;> (conv => whnf))))
    all_goals first
      | exact ⟨u.parent, y, ⟨by omega, hy, by rw [← hE, comI_left hV (x := x) (by omega) (by omega) (by omega), hpu]⟩, (le_mk (by repeat' (first | exact trivial | rfl | apply And.intro)) (by repeat' (first | exact trivial | rfl | apply And.intro)) rfl), by omega⟩
      | exact ⟨x, u.parent, ⟨hx, by omega, by rw [← hE, comI_comm (x := x) (y := y), comI_left hV (x := y) (by omega) (by omega) (by omega), hpu, comI_comm]⟩, (le_mk (by repeat' (first | exact trivial | rfl | apply And.intro)) (by repeat' (first | exact trivial | rfl | apply And.intro)) rfl), by omega⟩
      | (have e : x = y := by omega
         rw [← e, comI_same hV hx] at hE
         exact ret_p rfl (int_eq hE))
      | (have e : x = y := by assumption
         rw [← e, comI_same hV hx] at hE
         exact ret_p rfl (int_eq hE))
  all_goals exact ret_p rfl (int_eq (by rw [comF, if_neg (by simp_all)]))
set_option maxHeartbeats 2000000 in
theorem rCom_ok (s : Syl) (hs : ShortS s) (a b : Int) : Good Try.prog TT false 18 [sylV s, .int .i64 a, .int .i64 b] (· = .int .i64 (comF s a b)) := by
  have L1 : (s.tops.map encTpc).length = s.tops.length := List.length_map ..
  refine good_of mixed tabOk Try.func18 rfl rfl Try.ntmps18 Try.results18 rfl rfl ?_
  have h1000 := hs.1
  (conv => whnf); (repeat' (first | (refine arith_i ⟨by omega, by omega⟩ ?_; conv => whnf) | (refine arith_u ⟨by omega, by omega⟩ ?_; conv => whnf) | (refine arith_8 ⟨by omega, by omega⟩ ?_; conv => whnf) | (refine need_i (by first | omega | (simp only [List.length_append, List.length_cons, List.length_nil, List.length_map, List.length_replicate, List.length_modify]; omega)) ?_; conv => whnf) | ((with_reducible refine branch_tt ?_); conv => whnf) | ((with_reducible refine branch_ff ?_); conv => whnf) | (with_reducible refine branch_not ?_) | ((refine call_e (rtopic_ok s hs a) ?_); conv => whnf) | ((refine call_e (rtopic_ok s hs b) ?_); conv => whnf) | ((with_reducible refine slc_e ?_); conv => whnf) | ((with_reducible refine callS_a ?_); conv => whnf) | ((with_reducible refine bld_a ?_); conv => whnf) | ((with_reducible refine own_e ?_); conv => whnf) | ((with_reducible refine mkmap_b ?_); conv => whnf) | ((with_reducible refine branch_d (fun hq => ?_) (fun hq => ?_)) <;> (try (exfalso; omega)) <;> (conv => whnf)) | ((with_reducible refine branch_e (fun hq => ?_) (fun hq => ?_)) <;> (try (exfalso; omega)) <;> (conv => whnf)) | ((with_reducible refine branch_n (fun hq => ?_) (fun hq => ?_)) <;> (try (exfalso; omega)) <;> (conv => whnf)) | ((with_reducible refine branch_i (fun hq => ?_) (fun hq => ?_)) <;> (try (exfalso; omega)) <;> (conv => whnf))))
  · have hta : topB s a = true := by simp_all
    have htb : topB s b = true := by simp_all
    obtain ⟨⟨ha, ha'⟩, hc⟩ := topB_parts hta
    obtain ⟨⟨hb, hb'⟩, -⟩ := topB_parts htb
    have hV := par_valid hc
    obtain ⟨x, rfl⟩ : ∃ t : Nat, a = t := ⟨a.toNat, by omega⟩
    obtain ⟨y, rfl⟩ : ∃ t : Nat, b = t := ⟨b.toNat, by omega⟩
    have hF : comF s x y = comN (parF s) x y s.tops.length := by rw [comF, if_pos ⟨hta, htb⟩, comI, if_neg (by omega), Int.toNat_natCast, Int.toNat_natCast]
    refine loop_i (fun k : Nat => k ≤ s.tops.length ∧ comF s x y = comN (parF s) x y k) (fun k => mkSt [(1, .int .i64 x), (2, .int .i64 y), (3, .ptr 3 0), (7, .int .i64 ((k : Int) - 1))] [(3, sylC s)] false) (fun k => k) (s.tops.map encTpc).length ⟨by omega, by rw [L1]; exact hF⟩ (le_mk (by repeat' (first | exact trivial | rfl | apply And.intro)) (by repeat' (first | exact trivial | rfl | apply And.intro)) rfl) ?_
    rintro k ⟨hk, hE⟩
    cases k with
    | zero =>
      (conv => whnf); (repeat' (first | (refine arith_i ⟨by omega, by omega⟩ ?_; conv => whnf) | (refine arith_u ⟨by omega, by omega⟩ ?_; conv => whnf) | (refine arith_8 ⟨by omega, by omega⟩ ?_; conv => whnf) | (refine need_i (by first | omega | (simp only [List.length_append, List.length_cons, List.length_nil, List.length_map, List.length_replicate, List.length_modify]; omega)) ?_; conv => whnf) | ((with_reducible refine branch_tt ?_); conv => whnf) | ((with_reducible refine branch_ff ?_); conv => whnf) | (with_reducible refine branch_not ?_) | ((refine call_e (above_ok s 0 x hV h1000 (by omega)) ?_); conv => whnf) | ((with_reducible refine slc_e ?_); conv => whnf) | ((with_reducible refine callS_a ?_); conv => whnf) | ((with_reducible refine bld_a ?_); conv => whnf) | ((with_reducible refine own_e ?_); conv => whnf) | ((with_reducible refine mkmap_b ?_); conv => whnf) | ((with_reducible refine branch_d (fun hq => ?_) (fun hq => ?_)) <;> (try (exfalso; omega)) <;> (conv => whnf)) | ((with_reducible refine branch_e (fun hq => ?_) (fun hq => ?_)) <;> (try (exfalso; omega)) <;> (conv => whnf)) | ((with_reducible refine branch_n (fun hq => ?_) (fun hq => ?_)) <;> (try (exfalso; omega)) <;> (conv => whnf)) | ((with_reducible refine branch_i (fun hq => ?_) (fun hq => ?_)) <;> (try (exfalso; omega)) <;> (conv => whnf))))
      all_goals first
        | (exfalso; omega)
        | exact ret_p rfl (int_eq hE.symm)
    | succ k =>
      have ek : ((k + 1 : Nat) : Int) - 1 = (k : Int) := by omega
      rw [ek]
      (conv => whnf); (repeat' (first | (refine arith_i ⟨by omega, by omega⟩ ?_; conv => whnf) | (refine arith_u ⟨by omega, by omega⟩ ?_; conv => whnf) | (refine arith_8 ⟨by omega, by omega⟩ ?_; conv => whnf) | (refine need_i (by first | omega | (simp only [List.length_append, List.length_cons, List.length_nil, List.length_map, List.length_replicate, List.length_modify]; omega)) ?_; conv => whnf) | ((with_reducible refine branch_tt ?_); conv => whnf) | ((with_reducible refine branch_ff ?_); conv => whnf) | (with_reducible refine branch_not ?_) | ((refine call_e (above_ok s k x hV h1000 (by omega)) ?_); conv => whnf) | ((refine call_e (above_ok s k y hV h1000 (by omega)) ?_); conv => whnf) | ((with_reducible refine slc_e ?_); conv => whnf) | ((with_reducible refine callS_a ?_); conv => whnf) | ((with_reducible refine bld_a ?_); conv => whnf) | ((with_reducible refine own_e ?_); conv => whnf) | ((with_reducible refine mkmap_b ?_); conv => whnf) | ((with_reducible refine branch_d (fun hq => ?_) (fun hq => ?_)) <;> (try (exfalso; omega)) <;> (conv => whnf)) | ((with_reducible refine branch_e (fun hq => ?_) (fun hq => ?_)) <;> (try (exfalso; omega)) <;> (conv => whnf)) | ((with_reducible refine branch_n (fun hq => ?_) (fun hq => ?_)) <;> (try (exfalso; omega)) <;> (conv => whnf)) | ((with_reducible refine branch_i (fun hq => ?_) (fun hq => ?_)) <;> (try (exfalso; omega)) <;> (conv => whnf))))
      all_goals first
        | (exfalso; omega)
        | (have h1 : Ab (parF s) k x = true := by assumption
           have h2 : Ab (parF s) k y = true := by assumption
           rw [comN, if_pos ⟨h1, h2⟩] at hE
           exact ret_p rfl (int_eq hE.symm))
        | (rw [comN, if_neg (by simp_all)] at hE
           exact ⟨k, ⟨by omega, hE⟩, (le_mk (by repeat' (first | exact trivial | rfl | apply And.intro)) (by repeat' (first | exact trivial | rfl | apply And.intro)) rfl), by omega⟩)
  all_goals exact ret_p rfl (int_eq (by rw [comF, if_neg (by simp_all)]))
theorem ab_kid {p : Nat → Int} (hp : ∀ k, -1 ≤ p k ∧ p k < k) : ∀ {m x i : Nat}, x ≤ m → Ab p i x = true → i ≠ x → ∃ c, c ≤ x ∧ p c = i := by
  intro m
  induction m with
  | zero =>
    intro x i hx h e
    have := hp x
    by_cases h0 : p x < 0
    · rw [Ab_root hp h0 e] at h; cases h
    · omega
  | succ m ih =>
    intro x i hx h e
    have := hp x
    by_cases h0 : p x < 0
    · rw [Ab_root hp h0 e] at h; cases h
    · rw [Ab_up hp (by omega) e] at h
      by_cases e2 : i = (p x).toNat
      · exact ⟨x, Nat.le_refl _, by omega⟩
      · obtain ⟨c, hc, hpc⟩ := ih (by omega) h e2
        exact ⟨c, by omega, hpc⟩
theorem child_iff {s : Syl} {j : Nat} : childB s.tops j = true ↔ ∃ c, c < s.tops.length ∧ parF s c = j := by
  simp only [childB, List.any_eq_true, beq_iff_eq]
  constructor
  · rintro ⟨t, ht, e⟩
    obtain ⟨c, hc⟩ := List.mem_iff_getElem?.1 ht
    exact ⟨c, (List.getElem?_eq_some_iff.1 hc).1, by rw [par_at hc, e]⟩
  · rintro ⟨c, hc, e⟩
    have h := List.getElem?_eq_getElem hc
    exact ⟨s.tops[c], List.mem_of_getElem? h, by rw [← par_at h, e]⟩
theorem under_one {s : Syl} (hV : ∀ k, -1 ≤ parF s k ∧ parF s k < k) {i : Nat} (hi : i < s.tops.length) : (underN (parF s) s.tops.length i).length = 1 ↔ childB s.tops i = false := by
  have hmem : ∀ x, x ∈ underN (parF s) s.tops.length i ↔ x < s.tops.length ∧ Ab (parF s) i x = true := fun x => by rw [underN, List.mem_filter, List.mem_range]
  constructor
  · intro h
    obtain ⟨z, hz⟩ := List.length_eq_one_iff.1 h
    cases hc : childB s.tops i with
    | false => rfl
    | true =>
      obtain ⟨c, hcl, hpc⟩ := child_iff.1 hc
      have hv := hV c
      have h1 := (hmem i).2 ⟨hi, Ab_self hV i⟩
      have h2 := (hmem c).2 ⟨hcl, by rw [Ab_up hV (by omega) (by omega), hpc, Int.toNat_natCast]; exact Ab_self hV i⟩
      rw [hz, List.mem_singleton] at h1 h2
      omega
  · intro h
    have e : underN (parF s) s.tops.length i = [i] := by
      refine eq_of_mem under_sorted (List.pairwise_singleton ..) fun x => ?_
      rw [hmem, List.mem_singleton]
      constructor
      · rintro ⟨hx, hab⟩
        rcases Nat.decEq i x with hne | he
        · obtain ⟨c, hcx, hpc⟩ := ab_kid hV (Nat.le_refl x) hab hne
          have := child_iff.2 ⟨c, by omega, hpc⟩
          rw [h] at this; cases this
        · exact he.symm
      · rintro rfl
        exact ⟨hi, Ab_self hV x⟩
    rw [e]; rfl
theorem leavesBad_ok (s : Syl) (hs : ShortS s) (h : checkS s ≠ 0) : Good Try.prog TT false 19 [sylV s] (· = ints []) := by
  refine good_of mixed tabOk Try.func19 rfl rfl Try.ntmps19 Try.results19 rfl rfl ?_
  (conv => whnf); (repeat' (first | (refine arith_i ⟨by omega, by omega⟩ ?_; conv => whnf) | (refine arith_u ⟨by omega, by omega⟩ ?_; conv => whnf) | (refine arith_8 ⟨by omega, by omega⟩ ?_; conv => whnf) | (refine need_i (by first | omega | (simp only [List.length_append, List.length_cons, List.length_nil, List.length_map, List.length_replicate, List.length_modify]; omega)) ?_; conv => whnf) | ((with_reducible refine branch_tt ?_); conv => whnf) | ((with_reducible refine branch_ff ?_); conv => whnf) | (with_reducible refine branch_not ?_) | ((refine call_e (check_ok s hs) ?_); conv => whnf) | ((with_reducible refine slc_e ?_); conv => whnf) | ((with_reducible refine callS_a ?_); conv => whnf) | ((with_reducible refine bld_a ?_); conv => whnf) | ((with_reducible refine own_e ?_); conv => whnf) | ((with_reducible refine mkmap_b ?_); conv => whnf) | ((with_reducible refine branch_d (fun hq => ?_) (fun hq => ?_)) <;> (try (exfalso; omega)) <;> (conv => whnf)) | ((with_reducible refine branch_e (fun hq => ?_) (fun hq => ?_)) <;> (try (exfalso; omega)) <;> (conv => whnf)) | ((with_reducible refine branch_n (fun hq => ?_) (fun hq => ?_)) <;> (try (exfalso; omega)) <;> (conv => whnf)) | ((with_reducible refine branch_i (fun hq => ?_) (fun hq => ?_)) <;> (try (exfalso; omega)) <;> (conv => whnf))))
  all_goals first
    | (exfalso; exact h (by assumption))
    | exact ret_nl rfl
set_option maxHeartbeats 2000000 in
theorem rLeaves_ok (s : Syl) (hs : ShortS s) : Good Try.prog TT false 20 [sylV s] (· = ints (if checkS s = 0 then leavesTo s.tops s.tops.length else [])) := by
  have L1 : (s.tops.map encTpc).length = s.tops.length := List.length_map ..
  refine good_of mixed tabOk Try.func20 rfl rfl Try.ntmps20 Try.results20 rfl rfl ?_
  (conv => whnf); (repeat' (first | (refine arith_i ⟨by omega, by omega⟩ ?_; conv => whnf) | (refine arith_u ⟨by omega, by omega⟩ ?_; conv => whnf) | (refine arith_8 ⟨by omega, by omega⟩ ?_; conv => whnf) | (refine need_i (by first | omega | (simp only [List.length_append, List.length_cons, List.length_nil, List.length_map, List.length_replicate, List.length_modify]; omega)) ?_; conv => whnf) | ((with_reducible refine branch_tt ?_); conv => whnf) | ((with_reducible refine branch_ff ?_); conv => whnf) | (with_reducible refine branch_not ?_) | ((refine call_e (refCheck_ok s hs) ?_); conv => whnf) | ((with_reducible refine slc_e ?_); conv => whnf) | ((with_reducible refine callS_a ?_); conv => whnf) | ((with_reducible refine bld_a ?_); conv => whnf) | ((with_reducible refine own_e ?_); conv => whnf) | ((with_reducible refine mkmap_b ?_); conv => whnf) | ((with_reducible refine branch_d (fun hq => ?_) (fun hq => ?_)) <;> (try (exfalso; omega)) <;> (conv => whnf)) | ((with_reducible refine branch_e (fun hq => ?_) (fun hq => ?_)) <;> (try (exfalso; omega)) <;> (conv => whnf)) | ((with_reducible refine branch_n (fun hq => ?_) (fun hq => ?_)) <;> (try (exfalso; omega)) <;> (conv => whnf)) | ((with_reducible refine branch_i (fun hq => ?_) (fun hq => ?_)) <;> (try (exfalso; omega)) <;> (conv => whnf))))
  · exact ret_nl (z := 1) (by rw [if_neg (by assumption)]; rfl)
  · have hc : checkS s = 0 := by assumption
    have hV := par_valid hc
    have h1000 := hs.1
    rw [if_pos hc]
    refine loop_i (fun k : Nat => k ≤ s.tops.length) (fun k => mkSt [(1, .ptr 1 0), (3, .own 900 3 1 ((leavesTo s.tops k).map encI)), (4, .int .i64 k)] [(1, sylC s)] false) (fun k => s.tops.length - k) 0 (Nat.zero_le _) (Le.trans (le_adopt 3 900 3 1 rfl) (le_mk (by repeat' (first | exact trivial | rfl | apply And.intro)) (by repeat' (first | exact trivial | rfl | apply And.intro)) rfl)) ?_
    intro k hk
    have hlv : (leavesTo s.tops k).length ≤ k := by simp only [leavesTo, List.length_map]; exact filt_len
    have LV : ((leavesTo s.tops k).map encI).length = (leavesTo s.tops k).length := List.length_map ..
    have LU : ((underF s k).map encI).length = (underF s k).length := List.length_map ..
    have hu : k < s.tops.length → (underF s k).length = (underN (parF s) s.tops.length k).length := fun h => by rw [underF, if_pos (by simp [topB]; omega), Int.toNat_natCast, toI_len]
    (conv => whnf); (repeat' (first | (refine arith_i ⟨by omega, by omega⟩ ?_; conv => whnf) | (refine arith_u ⟨by omega, by omega⟩ ?_; conv => whnf) | (refine arith_8 ⟨by omega, by omega⟩ ?_; conv => whnf) | (refine need_i (by first | omega | (simp only [List.length_append, List.length_cons, List.length_nil, List.length_map, List.length_replicate, List.length_modify]; omega)) ?_; conv => whnf) | ((with_reducible refine branch_tt ?_); conv => whnf) | ((with_reducible refine branch_ff ?_); conv => whnf) | (with_reducible refine branch_not ?_) | ((refine call_e (rUnder_ok s hs k) ?_); conv => whnf) | ((with_reducible refine slc_e ?_); conv => whnf) | ((with_reducible refine callS_a ?_); conv => whnf) | ((with_reducible refine bld_a ?_); conv => whnf) | ((with_reducible refine own_e ?_); conv => whnf) | ((with_reducible refine mkmap_b ?_); conv => whnf) | ((with_reducible refine branch_d (fun hq => ?_) (fun hq => ?_)) <;> (try (exfalso; omega)) <;> (conv => whnf)) | ((with_reducible refine branch_e (fun hq => ?_) (fun hq => ?_)) <;> (try (exfalso; omega)) <;> (conv => whnf)) | ((with_reducible refine branch_n (fun hq => ?_) (fun hq => ?_)) <;> (try (exfalso; omega)) <;> (conv => whnf)) | ((with_reducible refine branch_i (fun hq => ?_) (fun hq => ?_)) <;> (try (exfalso; omega)) <;> (conv => whnf))))
    all_goals first
      | (have h1 := under_one hV (i := k) (by omega)
         have h2 := h1.1 (by rw [← hu (by omega)]; omega)
         refine ⟨k + 1, by omega, ?_, by omega⟩
         rw [leaves_next, if_neg (by rw [h2]; decide), ← toI_snoc, Int.natCast_add]; exact (le_mk (by repeat' (first | exact trivial | rfl | apply And.intro)) (by repeat' (first | exact trivial | rfl | apply And.intro)) rfl))
      | (have h1 := under_one hV (i := k) (by omega)
         have h2 : childB s.tops k = true := by
           cases h : childB s.tops k with
           | true => rfl
           | false => exfalso; have := h1.2 h; rw [← hu (by omega)] at this; omega
         refine ⟨k + 1, by omega, ?_, by omega⟩
         rw [leaves_next, if_pos h2, Int.natCast_add]; exact (le_mk (by repeat' (first | exact trivial | rfl | apply And.intro)) (by repeat' (first | exact trivial | rfl | apply And.intro)) rfl))
      | (have e : k = s.tops.length := by omega
         rw [e]; exact ret_ol rfl)
end Go.Proofs.Ytkmagoljpfpgmaa
