/- Layers 1 and 5 by the interpreter: Share, by the program and by the reference. -/
import Derived.Test.YtkmagoljpfpgmaaGL05o
namespace Go.Proofs.Ytkmagoljpfpgmaa
set_option linter.unusedVariables false
set_option linter.unusedSimpArgs false
set_option linter.unnecessarySimpa false
set_option linter.unusedSectionVars false
set_option maxRecDepth 10000
open Go.RowKit

theorem comps_valid : ∀ {l : List Cmp} {seen : List ByteArray}, compsF seen l = 0 → ∀ (k : Nat) (c : Cmp), l[k]? = some c → cmpB c = true
  | [], _, _, k, t, h => by simp at h
  | x :: l, seen, h, k, t, hk => by
    rw [compsF] at h
    by_cases h1 : freshF seen x.name ≠ 0
    · rw [if_pos h1] at h; exact absurd h h1
    · rw [if_neg h1] at h
      by_cases h2 : cmpB x = false
      · rw [if_pos h2] at h; cases h
      · rw [if_neg h2] at h
        cases k with
        | zero => simp at hk; subst hk; simpa using h2
        | succ k => exact comps_valid h k t (by simpa using hk)
theorem check_comps {s : Syl} (h : checkS s = 0) : s.comps.length ≤ 6 ∧ ∀ (k : Nat) (c : Cmp), s.comps[k]? = some c → 0 ≤ c.weight ∧ c.weight ≤ 1000 := by
  have hz := check_zero h
  have hl : s.comps.length ≤ 6 := by have := hz.1; simp [lensB] at this; omega
  refine ⟨hl, fun k c hc => ?_⟩
  unfold checkS at h
  rw [hz.1, if_neg (by simp), hz.2, if_neg (by simp)] at h
  by_cases h2 : objsF [] s.objs ≠ 0
  · rw [if_pos h2] at h; exact absurd h h2
  · rw [if_neg h2] at h
    have := comps_valid h k c hc
    simp [cmpB] at this
    omega
def wgt (s : Syl) (k : Nat) : Int := match s.comps[k]? with | some c => c.weight | none => 0
theorem wgt_at {s : Syl} {k : Nat} {c : Cmp} (h : s.comps[k]? = some c) : wgt s k = c.weight := by rw [wgt, h]
def allW (s : Syl) : Int := sumN (wgt s) s.comps.length
def shareF (s : Syl) (c : Int) : Int × Int × Int :=
  if checkS s ≠ 0 then (0, 0, checkS s) else if c < 0 ∨ (s.comps.length : Int) ≤ c then (0, 0, 4) else if allW s = 0 then (0, 0, 10)
  else (((wgt s c.toNat).toNat / Nat.gcd (wgt s c.toNat).toNat (allW s).toNat : Nat), ((allW s).toNat / Nat.gcd (wgt s c.toNat).toNat (allW s).toNat : Nat), 0)
def shareV (p : Int × Int × Int) : AV := .tup [.agg [.int .i64 p.1, .int .i64 p.2.1], .int .i64 p.2.2]
theorem wgt_in {s : Syl} (h : ∀ (k : Nat) (c : Cmp), s.comps[k]? = some c → 0 ≤ c.weight ∧ c.weight ≤ 1000) (k : Nat) : 0 ≤ wgt s k ∧ wgt s k ≤ 1000 := by
  unfold wgt
  split
  · next c hc => exact h k c hc
  · omega
theorem share_last {s : Syl} {c : Int} {f : Nat} (h0 : checkS s = 0) (hc : 0 ≤ c) (hc2 : c < s.comps.length) (hs : allW s ≠ 0) (hi : 0 ≤ allW s ∧ allW s ≤ 6000) (x : Cmp) (hx : s.comps[c.toNat]? = some x) (hw : 0 ≤ x.weight ∧ x.weight ≤ 1000)
    (hN : ∀ a b : Nat, a ≤ 1000000 → 1 ≤ b ∧ b ≤ 1000000 → Good Try.prog TT false f [.int .i64 a, .int .i64 b] (· = ratV a b)) : Good Try.prog TT false f [.int .i64 x.weight, .int .i64 (allW s)] (· = shareV (shareF s c)) := by
  obtain ⟨a, ea⟩ := Int.eq_ofNat_of_zero_le hw.1
  obtain ⟨b, eb⟩ := Int.eq_ofNat_of_zero_le hi.1
  have e : shareV (shareF s c) = ratV a b := by
    rw [shareF, if_neg (by simp [h0]), if_neg (by omega), if_neg hs, wgt_at hx, ea, eb]
    rfl
  rw [e, ea, eb]
  exact hN a b (by omega) (by omega)
theorem share_ok (s : Syl) (hs : ShortS s) (c : Int) : Good Try.prog TT false 8 [sylV s, .int .i64 c] (· = shareV (shareF s c)) := by
  have L : (s.comps.map encCmp).length = s.comps.length := List.length_map ..
  have bad : ∀ e : Int, shareF s c = (0, 0, e) → aret (.tup [.agg [.int .i64 0, .int .i64 0], .int .i64 e]) (· = shareV (shareF s c)) := fun e h =>
    ret_t (rs := [.agg [.int .i64 0, .int .i64 0], .int .i64 e]) ⟨.inr ⟨_, _, rfl, rfl, rc_p rfl, rc_p rfl, trivial⟩, (rc_p rfl).g, trivial⟩ (by rw [h]; rfl)
  refine good_of mixed tabOk Try.func8 rfl rfl Try.ntmps8 Try.results8 rfl rfl ?_
  (conv => whnf); (repeat (first | (refine arith_i ⟨by omega, by omega⟩ ?_; conv => whnf) | (refine need_i (by first | omega | (simp only [List.length_append, List.length_cons, List.length_nil]; omega)) ?_; conv => whnf) | ((with_reducible refine branch_tt ?_); conv => whnf) | ((with_reducible refine branch_ff ?_); conv => whnf) | (with_reducible refine branch_not ?_) | ((with_reducible refine slc_e ?_); conv => whnf) | ((with_reducible refine callS_a ?_); conv => whnf) | ((with_reducible refine bld_a ?_); conv => whnf) | ((with_reducible refine own_e ?_); conv => whnf) | ((with_reducible refine mkmap_b ?_); conv => whnf)))
  refine call_e (check_ok s hs) ?_
  (conv => whnf); (repeat (first | (refine arith_i ⟨by omega, by omega⟩ ?_; conv => whnf) | (refine need_i (by first | omega | (simp only [List.length_append, List.length_cons, List.length_nil]; omega)) ?_; conv => whnf) | ((with_reducible refine branch_tt ?_); conv => whnf) | ((with_reducible refine branch_ff ?_); conv => whnf) | (with_reducible refine branch_not ?_) | ((with_reducible refine slc_e ?_); conv => whnf) | ((with_reducible refine callS_a ?_); conv => whnf) | ((with_reducible refine bld_a ?_); conv => whnf) | ((with_reducible refine own_e ?_); conv => whnf) | ((with_reducible refine mkmap_b ?_); conv => whnf)))
  refine branch_n (fun h => ?_) (fun h0 => ?_)
  · (conv => whnf); (repeat (first | (refine arith_i ⟨by omega, by omega⟩ ?_; conv => whnf) | (refine need_i (by first | omega | (simp only [List.length_append, List.length_cons, List.length_nil]; omega)) ?_; conv => whnf) | ((with_reducible refine branch_tt ?_); conv => whnf) | ((with_reducible refine branch_ff ?_); conv => whnf) | (with_reducible refine branch_not ?_) | ((with_reducible refine slc_e ?_); conv => whnf) | ((with_reducible refine callS_a ?_); conv => whnf) | ((with_reducible refine bld_a ?_); conv => whnf) | ((with_reducible refine own_e ?_); conv => whnf) | ((with_reducible refine mkmap_b ?_); conv => whnf)))
    exact bad _ (by rw [shareF, if_pos h])
  obtain ⟨hl, hw⟩ := check_comps h0
  (conv => whnf); (repeat (first | (refine arith_i ⟨by omega, by omega⟩ ?_; conv => whnf) | (refine need_i (by first | omega | (simp only [List.length_append, List.length_cons, List.length_nil]; omega)) ?_; conv => whnf) | ((with_reducible refine branch_tt ?_); conv => whnf) | ((with_reducible refine branch_ff ?_); conv => whnf) | (with_reducible refine branch_not ?_) | ((with_reducible refine slc_e ?_); conv => whnf) | ((with_reducible refine callS_a ?_); conv => whnf) | ((with_reducible refine bld_a ?_); conv => whnf) | ((with_reducible refine own_e ?_); conv => whnf) | ((with_reducible refine mkmap_b ?_); conv => whnf)))
  refine branch_d (fun h => ?_) (fun h1 => ?_)
  · (conv => whnf); (repeat (first | (refine arith_i ⟨by omega, by omega⟩ ?_; conv => whnf) | (refine need_i (by first | omega | (simp only [List.length_append, List.length_cons, List.length_nil]; omega)) ?_; conv => whnf) | ((with_reducible refine branch_tt ?_); conv => whnf) | ((with_reducible refine branch_ff ?_); conv => whnf) | (with_reducible refine branch_not ?_) | ((with_reducible refine slc_e ?_); conv => whnf) | ((with_reducible refine callS_a ?_); conv => whnf) | ((with_reducible refine bld_a ?_); conv => whnf) | ((with_reducible refine own_e ?_); conv => whnf) | ((with_reducible refine mkmap_b ?_); conv => whnf)))
    exact bad _ (by rw [shareF, if_neg (by simp [h0]), if_pos (.inl h)])
  (conv => whnf); (repeat (first | (refine arith_i ⟨by omega, by omega⟩ ?_; conv => whnf) | (refine need_i (by first | omega | (simp only [List.length_append, List.length_cons, List.length_nil]; omega)) ?_; conv => whnf) | ((with_reducible refine branch_tt ?_); conv => whnf) | ((with_reducible refine branch_ff ?_); conv => whnf) | (with_reducible refine branch_not ?_) | ((with_reducible refine slc_e ?_); conv => whnf) | ((with_reducible refine callS_a ?_); conv => whnf) | ((with_reducible refine bld_a ?_); conv => whnf) | ((with_reducible refine own_e ?_); conv => whnf) | ((with_reducible refine mkmap_b ?_); conv => whnf)))
  refine branch_d (fun h => ?_) (fun h2 => ?_)
  · (conv => whnf); (repeat (first | (refine arith_i ⟨by omega, by omega⟩ ?_; conv => whnf) | (refine need_i (by first | omega | (simp only [List.length_append, List.length_cons, List.length_nil]; omega)) ?_; conv => whnf) | ((with_reducible refine branch_tt ?_); conv => whnf) | ((with_reducible refine branch_ff ?_); conv => whnf) | (with_reducible refine branch_not ?_) | ((with_reducible refine slc_e ?_); conv => whnf) | ((with_reducible refine callS_a ?_); conv => whnf) | ((with_reducible refine bld_a ?_); conv => whnf) | ((with_reducible refine own_e ?_); conv => whnf) | ((with_reducible refine mkmap_b ?_); conv => whnf)))
    exact bad _ (by rw [shareF, if_neg (by simp [h0]), if_pos (.inr (by omega))])
  (conv => whnf); (repeat (first | (refine arith_i ⟨by omega, by omega⟩ ?_; conv => whnf) | (refine need_i (by first | omega | (simp only [List.length_append, List.length_cons, List.length_nil]; omega)) ?_; conv => whnf) | ((with_reducible refine branch_tt ?_); conv => whnf) | ((with_reducible refine branch_ff ?_); conv => whnf) | (with_reducible refine branch_not ?_) | ((with_reducible refine slc_e ?_); conv => whnf) | ((with_reducible refine callS_a ?_); conv => whnf) | ((with_reducible refine bld_a ?_); conv => whnf) | ((with_reducible refine own_e ?_); conv => whnf) | ((with_reducible refine mkmap_b ?_); conv => whnf)))
  refine loop_i (fun k : Nat => k ≤ s.comps.length) (fun k => mkSt [(1, .int .i64 c), (2, .ptr 2 0), (4, .ptr 4 0), (7, .int .i64 (sumN (wgt s) k)), (27, cmpsV s.comps), (28, .int .i64 (s.comps.map encCmp).length), (29, .int .i64 k)] [(2, sylC s), (4, [.int .i64 0, .int .i64 0])] false) (fun k => s.comps.length - k) 0 (Nat.zero_le _) (le_mk ⟨rfl, rfl, rfl, rfl, rfl, rfl, rfl, trivial⟩ ⟨rfl, rfl, trivial⟩ rfl) ?_
  intro k hk
  have hsum := sumN_le (f := wgt s) (b := 1000) (n := k) (by omega) fun j _ => wgt_in hw j
  (conv => whnf); (repeat (first | (refine arith_i ⟨by omega, by omega⟩ ?_; conv => whnf) | (refine need_i (by first | omega | (simp only [List.length_append, List.length_cons, List.length_nil]; omega)) ?_; conv => whnf) | ((with_reducible refine branch_tt ?_); conv => whnf) | ((with_reducible refine branch_ff ?_); conv => whnf) | (with_reducible refine branch_not ?_) | ((with_reducible refine slc_e ?_); conv => whnf) | ((with_reducible refine callS_a ?_); conv => whnf) | ((with_reducible refine bld_a ?_); conv => whnf) | ((with_reducible refine own_e ?_); conv => whnf) | ((with_reducible refine mkmap_b ?_); conv => whnf)))
  refine branch_d (fun h => ?_) (fun h => ?_)
  · (conv => whnf); (repeat (first | (refine arith_i ⟨by omega, by omega⟩ ?_; conv => whnf) | (refine need_i (by first | omega | (simp only [List.length_append, List.length_cons, List.length_nil]; omega)) ?_; conv => whnf) | ((with_reducible refine branch_tt ?_); conv => whnf) | ((with_reducible refine branch_ff ?_); conv => whnf) | (with_reducible refine branch_not ?_) | ((with_reducible refine slc_e ?_); conv => whnf) | ((with_reducible refine callS_a ?_); conv => whnf) | ((with_reducible refine bld_a ?_); conv => whnf) | ((with_reducible refine own_e ?_); conv => whnf) | ((with_reducible refine mkmap_b ?_); conv => whnf)))
    refine idx_m (by omega) (by omega) fun x hx => ?_
    rw [Int.toNat_natCast] at hx
    have hwx := hw k x hx
    (conv => whnf); (repeat (first | (refine arith_i ⟨by omega, by omega⟩ ?_; conv => whnf) | (refine need_i (by first | omega | (simp only [List.length_append, List.length_cons, List.length_nil]; omega)) ?_; conv => whnf) | ((with_reducible refine branch_tt ?_); conv => whnf) | ((with_reducible refine branch_ff ?_); conv => whnf) | (with_reducible refine branch_not ?_) | ((with_reducible refine slc_e ?_); conv => whnf) | ((with_reducible refine callS_a ?_); conv => whnf) | ((with_reducible refine bld_a ?_); conv => whnf) | ((with_reducible refine own_e ?_); conv => whnf) | ((with_reducible refine mkmap_b ?_); conv => whnf)))
    exact ⟨k + 1, by omega, le_mk ⟨rfl, rfl, rfl, int_eq (by rw [sumN, wgt_at hx]), rfl, rfl, rfl, trivial⟩ ⟨rfl, rfl, trivial⟩ rfl, by omega⟩
  · have hkn : k = s.comps.length := by omega
    subst hkn
    (conv => whnf); (repeat (first | (refine arith_i ⟨by omega, by omega⟩ ?_; conv => whnf) | (refine need_i (by first | omega | (simp only [List.length_append, List.length_cons, List.length_nil]; omega)) ?_; conv => whnf) | ((with_reducible refine branch_tt ?_); conv => whnf) | ((with_reducible refine branch_ff ?_); conv => whnf) | (with_reducible refine branch_not ?_) | ((with_reducible refine slc_e ?_); conv => whnf) | ((with_reducible refine callS_a ?_); conv => whnf) | ((with_reducible refine bld_a ?_); conv => whnf) | ((with_reducible refine own_e ?_); conv => whnf) | ((with_reducible refine mkmap_b ?_); conv => whnf)))
    refine branch_e (fun h3 => ?_) (fun h3 => ?_)
    · (conv => whnf); (repeat (first | (refine arith_i ⟨by omega, by omega⟩ ?_; conv => whnf) | (refine need_i (by first | omega | (simp only [List.length_append, List.length_cons, List.length_nil]; omega)) ?_; conv => whnf) | ((with_reducible refine branch_tt ?_); conv => whnf) | ((with_reducible refine branch_ff ?_); conv => whnf) | (with_reducible refine branch_not ?_) | ((with_reducible refine slc_e ?_); conv => whnf) | ((with_reducible refine callS_a ?_); conv => whnf) | ((with_reducible refine bld_a ?_); conv => whnf) | ((with_reducible refine own_e ?_); conv => whnf) | ((with_reducible refine mkmap_b ?_); conv => whnf)))
      exact bad _ (by rw [shareF, if_neg (by simp [h0]), if_neg (by omega), if_pos (show allW s = 0 from h3)])
    · (conv => whnf); (repeat (first | (refine arith_i ⟨by omega, by omega⟩ ?_; conv => whnf) | (refine need_i (by first | omega | (simp only [List.length_append, List.length_cons, List.length_nil]; omega)) ?_; conv => whnf) | ((with_reducible refine branch_tt ?_); conv => whnf) | ((with_reducible refine branch_ff ?_); conv => whnf) | (with_reducible refine branch_not ?_) | ((with_reducible refine slc_e ?_); conv => whnf) | ((with_reducible refine callS_a ?_); conv => whnf) | ((with_reducible refine bld_a ?_); conv => whnf) | ((with_reducible refine own_e ?_); conv => whnf) | ((with_reducible refine mkmap_b ?_); conv => whnf)))
      refine idx_m (by omega) (by omega) fun x hx => ?_
      (conv => whnf); (repeat (first | (refine arith_i ⟨by omega, by omega⟩ ?_; conv => whnf) | (refine need_i (by first | omega | (simp only [List.length_append, List.length_cons, List.length_nil]; omega)) ?_; conv => whnf) | ((with_reducible refine branch_tt ?_); conv => whnf) | ((with_reducible refine branch_ff ?_); conv => whnf) | (with_reducible refine branch_not ?_) | ((with_reducible refine slc_e ?_); conv => whnf) | ((with_reducible refine callS_a ?_); conv => whnf) | ((with_reducible refine bld_a ?_); conv => whnf) | ((with_reducible refine own_e ?_); conv => whnf) | ((with_reducible refine mkmap_b ?_); conv => whnf)))
      refine call_e (share_last h0 (by omega) (by omega) h3 (by unfold allW; omega) x hx (hw _ x hx) new_ratio_ok) ?_
      (conv => whnf); (repeat (first | (refine arith_i ⟨by omega, by omega⟩ ?_; conv => whnf) | (refine need_i (by first | omega | (simp only [List.length_append, List.length_cons, List.length_nil]; omega)) ?_; conv => whnf) | ((with_reducible refine branch_tt ?_); conv => whnf) | ((with_reducible refine branch_ff ?_); conv => whnf) | (with_reducible refine branch_not ?_) | ((with_reducible refine slc_e ?_); conv => whnf) | ((with_reducible refine callS_a ?_); conv => whnf) | ((with_reducible refine bld_a ?_); conv => whnf) | ((with_reducible refine own_e ?_); conv => whnf) | ((with_reducible refine mkmap_b ?_); conv => whnf)))
      exact ret_t (rs := [.agg [.int .i64 (shareF s c).1, .int .i64 (shareF s c).2.1], .int .i64 (shareF s c).2.2]) ⟨.inr ⟨_, _, rfl, rfl, rc_p rfl, rc_p rfl, trivial⟩, (rc_p rfl).g, trivial⟩ rfl
end Go.Proofs.Ytkmagoljpfpgmaa
