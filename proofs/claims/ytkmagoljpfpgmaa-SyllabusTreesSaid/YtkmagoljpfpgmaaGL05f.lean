/- Layer 5 by the interpreter: rolled marks. -/
import Derived.Test.YtkmagoljpfpgmaaGL05e
namespace Go.Proofs.Ytkmagoljpfpgmaa
set_option linter.unusedVariables false
set_option linter.unusedSimpArgs false
set_option linter.unnecessarySimpa false
set_option linter.unusedSectionVars false
set_option maxRecDepth 10000
open Go.RowKit

def markB (m : Int) : Bool := decide (0 ≤ m) && decide (m ≤ 200)
def marksB (l : List Int) : Bool := l.all markB
theorem marks_bad {l : List Int} {k : Nat} {x : Int} (h : l[k]? = some x) (hb : markB x = false) : marksB l = false := by
  unfold marksB
  rw [List.all_eq_false]
  exact ⟨x, List.mem_of_getElem? h, by simp [hb]⟩
theorem marks_good {l : List Int} {k : Nat} (hk : l.length ≤ k) (h : ∀ (i : Nat) (x : Int), i < k → l[i]? = some x → markB x = true) : marksB l = true := by
  unfold marksB
  rw [List.all_eq_true]
  intro x hx
  obtain ⟨i, hi, e⟩ := List.mem_iff_getElem.1 hx
  exact h i x (by omega) (by rw [← e]; exact List.getElem?_eq_getElem hi)
theorem marks_in {l : List Int} (h : marksB l = true) (k : Nat) : 0 ≤ nth l k ∧ nth l k ≤ 200 := by
  unfold nth
  rw [List.getD_eq_getElem?_getD]
  cases hx : l[k]? with
  | none => simp
  | some x =>
    have := (List.all_eq_true.1 h) x (List.mem_of_getElem? hx)
    simp [markB] at this
    simpa using this
theorem nth_of {l : List Int} {k : Nat} {x : Int} (h : l[k]? = some x) : nth l k = x := by simp [nth, List.getD_eq_getElem?_getD, h]
/-- The marks with those of the topics below. -/
def rolled (s : Syl) (m : List Int) : List Int := (List.range s.tops.length).map (rollS (parF s) (nth m) s.tops.length)
def rollE (s : Syl) (m : List Int) : Int := if checkS s ≠ 0 then checkS s else if m.length ≠ s.tops.length then 1 else if marksB m = false then 2 else 0
def rollL (s : Syl) (m : List Int) : List Int := if rollE s m = 0 then rolled s m else []
def mids (s : Syl) (m : List Int) (i : Nat) : List Int := (List.range s.tops.length).map (midR (parF s) (nth m) s.tops.length i)
theorem mids_len {s : Syl} {m : List Int} {i : Nat} : (mids s m i).length = s.tops.length := by simp [mids]
theorem mids_at {s : Syl} {m : List Int} {i j : Nat} (h : j < s.tops.length) : (mids s m i)[j]? = some (midR (parF s) (nth m) s.tops.length i j) := by simp [mids, h]
theorem mids_start {s : Syl} {m : List Int} (h : m.length = s.tops.length) : mids s m s.tops.length = m := by
  apply List.ext_getElem?
  intro j
  rcases Nat.lt_or_ge j s.tops.length with hj | hj
  · have ⟨y, hy⟩ : ∃ y, m[j]? = some y := ⟨_, List.getElem?_eq_getElem (by omega)⟩
    rw [mids_at hj, mid_start _ hj, hy, nth_of hy]
  · rw [List.getElem?_eq_none (by rw [mids_len]; omega), List.getElem?_eq_none (by omega)]
theorem mids_end {s : Syl} {m : List Int} : mids s m 0 = rolled s m := by
  unfold mids rolled
  apply List.map_congr_left
  intro j _
  rw [midR, if_pos (Nat.zero_le _)]
theorem mids_set {s : Syl} {m : List Int} (hV : ∀ k, -1 ≤ parF s k ∧ parF s k < k) {x : Nat} (hx : x < s.tops.length) (h0 : 0 ≤ parF s x) :
    (mids s m (x + 1)).set (parF s x).toNat (midR (parF s) (nth m) s.tops.length (x + 1) (parF s x).toNat + midR (parF s) (nth m) s.tops.length (x + 1) x) = mids s m x := by
  have v := hV x
  apply List.ext_getElem?
  intro j
  rw [List.getElem?_set, mids_len]
  by_cases hj : (parF s x).toNat = j
  · subst hj
    have : (parF s x).toNat < s.tops.length := by omega
    rw [if_pos rfl, if_pos this, mids_at this, mid_next hV _ hx, if_pos (by omega), mid_here hV _ hx]
  · rw [if_neg hj]
    rcases Nat.lt_or_ge j s.tops.length with h | h
    · rw [mids_at h, mids_at h, mid_next hV _ hx j, if_neg (by omega)]
    · rw [List.getElem?_eq_none (by rw [mids_len]; omega), List.getElem?_eq_none (by rw [mids_len]; omega)]
theorem mids_skip {s : Syl} {m : List Int} (hV : ∀ k, -1 ≤ parF s k ∧ parF s k < k) {x : Nat} (hx : x < s.tops.length) (h0 : parF s x < 0) : mids s m (x + 1) = mids s m x := by
  unfold mids
  apply List.map_congr_left
  intro j _
  rw [mid_next hV _ hx j, if_neg (by omega)]
theorem roll_in {s : Syl} {m : List Int} (hn : s.tops.length ≤ 16) (hm : marksB m = true) (j : Nat) : 0 ≤ rollS (parF s) (nth m) s.tops.length j ∧ rollS (parF s) (nth m) s.tops.length j ≤ 3200 := by
  have := sumN_le (f := fun k => if Ab (parF s) j k = true then nth m k else 0) (b := 200) (n := s.tops.length) (by omega) fun k _ => by
    have := marks_in hm k
    split <;> omega
  unfold rollS
  omega
theorem mid_in {s : Syl} {m : List Int} (hn : s.tops.length ≤ 16) (hm : marksB m = true) (i j : Nat) : 0 ≤ midR (parF s) (nth m) s.tops.length i j ∧ midR (parF s) (nth m) s.tops.length i j ≤ 60000 := by
  unfold midR
  split
  · have := roll_in hn hm j; omega
  · have h1 := marks_in hm j
    have := sumN_le (f := fun c => if i ≤ c ∧ parF s c = j then rollS (parF s) (nth m) s.tops.length c else 0) (b := 3200) (n := s.tops.length) (by omega) fun k _ => by
      have := roll_in hn hm k
      split <;> omega
    omega
theorem encI_set {y : Int} : ∀ {xs : List Int} {k : Nat}, (xs.map encI).modify k (·.set 0 (.int .i64 y)) = (xs.set k y).map encI
  | [], _ => by simp
  | x :: xs, 0 => by simp [encI, List.modify_zero_cons]
  | x :: xs, k + 1 => by simp only [List.map_cons, List.modify_succ_cons, List.set_cons_succ, encI_set]
theorem rollL_bad {s : Syl} {m : List Int} (h : rollE s m ≠ 0) : rollL s m = [] := by rw [rollL, if_neg h]
theorem roll_ok (s : Syl) (hs : ShortS s) (m : List Int) (hm : m.length ≤ 1001) : Good Try.prog TT false 29 [sylV s, ints m] (· = .tup [ints (rollL s m), .int .i64 (rollE s m)]) := by
  have L1 : (s.tops.map encTpc).length = s.tops.length := List.length_map ..
  have L2 : (m.map encI).length = m.length := List.length_map ..
  have bad : ∀ e : Int, e ≠ 0 → rollE s m = e → aret (.tup [.nil, .int .i64 e]) (· = .tup [ints (rollL s m), .int .i64 (rollE s m)]) := fun e he h =>
    ret_t (rs := [.lst 1 [], .int .i64 e]) ⟨rc_n.g, (rc_p rfl).g, trivial⟩ (by rw [rollL_bad (by rw [h]; exact he), h]; rfl)
  refine good_of mixed tabOk Try.func29 rfl rfl Try.ntmps29 Try.results29 rfl rfl ?_
  (conv => whnf); (repeat (first | (refine arith_i ⟨by omega, by omega⟩ ?_; conv => whnf) | (refine need_i (by first | omega | (simp only [List.length_append, List.length_cons, List.length_nil]; omega)) ?_; conv => whnf) | ((with_reducible refine branch_tt ?_); conv => whnf) | ((with_reducible refine branch_ff ?_); conv => whnf) | (with_reducible refine branch_not ?_) | ((with_reducible refine slc_e ?_); conv => whnf) | ((with_reducible refine callS_a ?_); conv => whnf) | ((with_reducible refine bld_a ?_); conv => whnf) | ((with_reducible refine own_e ?_); conv => whnf) | ((with_reducible refine mkmap_b ?_); conv => whnf)))
  refine call_e (check_ok s hs) ?_
  (conv => whnf); (repeat (first | (refine arith_i ⟨by omega, by omega⟩ ?_; conv => whnf) | (refine need_i (by first | omega | (simp only [List.length_append, List.length_cons, List.length_nil]; omega)) ?_; conv => whnf) | ((with_reducible refine branch_tt ?_); conv => whnf) | ((with_reducible refine branch_ff ?_); conv => whnf) | (with_reducible refine branch_not ?_) | ((with_reducible refine slc_e ?_); conv => whnf) | ((with_reducible refine callS_a ?_); conv => whnf) | ((with_reducible refine bld_a ?_); conv => whnf) | ((with_reducible refine own_e ?_); conv => whnf) | ((with_reducible refine mkmap_b ?_); conv => whnf)))
  refine branch_n (fun h => ?_) (fun h0 => ?_)
  · (conv => whnf); (repeat (first | (refine arith_i ⟨by omega, by omega⟩ ?_; conv => whnf) | (refine need_i (by first | omega | (simp only [List.length_append, List.length_cons, List.length_nil]; omega)) ?_; conv => whnf) | ((with_reducible refine branch_tt ?_); conv => whnf) | ((with_reducible refine branch_ff ?_); conv => whnf) | (with_reducible refine branch_not ?_) | ((with_reducible refine slc_e ?_); conv => whnf) | ((with_reducible refine callS_a ?_); conv => whnf) | ((with_reducible refine bld_a ?_); conv => whnf) | ((with_reducible refine own_e ?_); conv => whnf) | ((with_reducible refine mkmap_b ?_); conv => whnf)))
    exact bad _ h (by rw [rollE, if_pos h])
  have hV := par_valid h0
  have hn := tops_len h0
  (conv => whnf); (repeat (first | (refine arith_i ⟨by omega, by omega⟩ ?_; conv => whnf) | (refine need_i (by first | omega | (simp only [List.length_append, List.length_cons, List.length_nil]; omega)) ?_; conv => whnf) | ((with_reducible refine branch_tt ?_); conv => whnf) | ((with_reducible refine branch_ff ?_); conv => whnf) | (with_reducible refine branch_not ?_) | ((with_reducible refine slc_e ?_); conv => whnf) | ((with_reducible refine callS_a ?_); conv => whnf) | ((with_reducible refine bld_a ?_); conv => whnf) | ((with_reducible refine own_e ?_); conv => whnf) | ((with_reducible refine mkmap_b ?_); conv => whnf)))
  refine branch_n (fun h => ?_) (fun h1 => ?_)
  · (conv => whnf); (repeat (first | (refine arith_i ⟨by omega, by omega⟩ ?_; conv => whnf) | (refine need_i (by first | omega | (simp only [List.length_append, List.length_cons, List.length_nil]; omega)) ?_; conv => whnf) | ((with_reducible refine branch_tt ?_); conv => whnf) | ((with_reducible refine branch_ff ?_); conv => whnf) | (with_reducible refine branch_not ?_) | ((with_reducible refine slc_e ?_); conv => whnf) | ((with_reducible refine callS_a ?_); conv => whnf) | ((with_reducible refine bld_a ?_); conv => whnf) | ((with_reducible refine own_e ?_); conv => whnf) | ((with_reducible refine mkmap_b ?_); conv => whnf)))
    exact bad _ (by omega) (by rw [rollE, if_neg (by simpa using h0), if_pos (by omega)])
  have h1' : m.length = s.tops.length := by omega
  (conv => whnf); (repeat (first | (refine arith_i ⟨by omega, by omega⟩ ?_; conv => whnf) | (refine need_i (by first | omega | (simp only [List.length_append, List.length_cons, List.length_nil]; omega)) ?_; conv => whnf) | ((with_reducible refine branch_tt ?_); conv => whnf) | ((with_reducible refine branch_ff ?_); conv => whnf) | (with_reducible refine branch_not ?_) | ((with_reducible refine slc_e ?_); conv => whnf) | ((with_reducible refine callS_a ?_); conv => whnf) | ((with_reducible refine bld_a ?_); conv => whnf) | ((with_reducible refine own_e ?_); conv => whnf) | ((with_reducible refine mkmap_b ?_); conv => whnf)))
  refine loop_i (fun k : Nat => k ≤ m.length ∧ ∀ (i : Nat) (x : Int), i < k → m[i]? = some x → markB x = true) (fun k => mkSt [(1, ints m), (2, .ptr 2 0), (23, ints m), (24, .int .i64 (m.map encI).length), (25, .int .i64 k)] [(2, sylC s)] false) (fun k => m.length - k) 0 ⟨Nat.zero_le _, nofun⟩ (le_mk ⟨rfl, rfl, rfl, rfl, rfl, trivial⟩ ⟨rfl, trivial⟩ rfl) ?_
  rintro k ⟨hk, hall⟩
  (conv => whnf); (repeat (first | (refine arith_i ⟨by omega, by omega⟩ ?_; conv => whnf) | (refine need_i (by first | omega | (simp only [List.length_append, List.length_cons, List.length_nil]; omega)) ?_; conv => whnf) | ((with_reducible refine branch_tt ?_); conv => whnf) | ((with_reducible refine branch_ff ?_); conv => whnf) | (with_reducible refine branch_not ?_) | ((with_reducible refine slc_e ?_); conv => whnf) | ((with_reducible refine callS_a ?_); conv => whnf) | ((with_reducible refine bld_a ?_); conv => whnf) | ((with_reducible refine own_e ?_); conv => whnf) | ((with_reducible refine mkmap_b ?_); conv => whnf)))
  refine branch_d (fun h => ?_) (fun h => ?_)
  · (conv => whnf); (repeat (first | (refine arith_i ⟨by omega, by omega⟩ ?_; conv => whnf) | (refine need_i (by first | omega | (simp only [List.length_append, List.length_cons, List.length_nil]; omega)) ?_; conv => whnf) | ((with_reducible refine branch_tt ?_); conv => whnf) | ((with_reducible refine branch_ff ?_); conv => whnf) | (with_reducible refine branch_not ?_) | ((with_reducible refine slc_e ?_); conv => whnf) | ((with_reducible refine callS_a ?_); conv => whnf) | ((with_reducible refine bld_a ?_); conv => whnf) | ((with_reducible refine own_e ?_); conv => whnf) | ((with_reducible refine mkmap_b ?_); conv => whnf)))
    refine idx_m (by omega) (by omega) fun x hx => ?_
    rw [Int.toNat_natCast] at hx
    have badM : markB x = false → rollE s m = 2 := fun hb => by rw [rollE, if_neg (by simpa using h0), if_neg (by simpa using h1'), if_pos (marks_bad hx hb)]
    (conv => whnf); (repeat (first | (refine arith_i ⟨by omega, by omega⟩ ?_; conv => whnf) | (refine need_i (by first | omega | (simp only [List.length_append, List.length_cons, List.length_nil]; omega)) ?_; conv => whnf) | ((with_reducible refine branch_tt ?_); conv => whnf) | ((with_reducible refine branch_ff ?_); conv => whnf) | (with_reducible refine branch_not ?_) | ((with_reducible refine slc_e ?_); conv => whnf) | ((with_reducible refine callS_a ?_); conv => whnf) | ((with_reducible refine bld_a ?_); conv => whnf) | ((with_reducible refine own_e ?_); conv => whnf) | ((with_reducible refine mkmap_b ?_); conv => whnf)))
    refine branch_d (fun h2 => ?_) (fun h2 => ?_)
    · (conv => whnf); (repeat (first | (refine arith_i ⟨by omega, by omega⟩ ?_; conv => whnf) | (refine need_i (by first | omega | (simp only [List.length_append, List.length_cons, List.length_nil]; omega)) ?_; conv => whnf) | ((with_reducible refine branch_tt ?_); conv => whnf) | ((with_reducible refine branch_ff ?_); conv => whnf) | (with_reducible refine branch_not ?_) | ((with_reducible refine slc_e ?_); conv => whnf) | ((with_reducible refine callS_a ?_); conv => whnf) | ((with_reducible refine bld_a ?_); conv => whnf) | ((with_reducible refine own_e ?_); conv => whnf) | ((with_reducible refine mkmap_b ?_); conv => whnf)))
      exact bad _ (by omega) (badM (by simp [markB]; omega))
    · (conv => whnf); (repeat (first | (refine arith_i ⟨by omega, by omega⟩ ?_; conv => whnf) | (refine need_i (by first | omega | (simp only [List.length_append, List.length_cons, List.length_nil]; omega)) ?_; conv => whnf) | ((with_reducible refine branch_tt ?_); conv => whnf) | ((with_reducible refine branch_ff ?_); conv => whnf) | (with_reducible refine branch_not ?_) | ((with_reducible refine slc_e ?_); conv => whnf) | ((with_reducible refine callS_a ?_); conv => whnf) | ((with_reducible refine bld_a ?_); conv => whnf) | ((with_reducible refine own_e ?_); conv => whnf) | ((with_reducible refine mkmap_b ?_); conv => whnf)))
      refine branch_d (fun h3 => ?_) (fun h3 => ?_)
      · (conv => whnf); (repeat (first | (refine arith_i ⟨by omega, by omega⟩ ?_; conv => whnf) | (refine need_i (by first | omega | (simp only [List.length_append, List.length_cons, List.length_nil]; omega)) ?_; conv => whnf) | ((with_reducible refine branch_tt ?_); conv => whnf) | ((with_reducible refine branch_ff ?_); conv => whnf) | (with_reducible refine branch_not ?_) | ((with_reducible refine slc_e ?_); conv => whnf) | ((with_reducible refine callS_a ?_); conv => whnf) | ((with_reducible refine bld_a ?_); conv => whnf) | ((with_reducible refine own_e ?_); conv => whnf) | ((with_reducible refine mkmap_b ?_); conv => whnf)))
        exact bad _ (by omega) (badM (by simp [markB]; omega))
      · (conv => whnf); (repeat (first | (refine arith_i ⟨by omega, by omega⟩ ?_; conv => whnf) | (refine need_i (by first | omega | (simp only [List.length_append, List.length_cons, List.length_nil]; omega)) ?_; conv => whnf) | ((with_reducible refine branch_tt ?_); conv => whnf) | ((with_reducible refine branch_ff ?_); conv => whnf) | (with_reducible refine branch_not ?_) | ((with_reducible refine slc_e ?_); conv => whnf) | ((with_reducible refine callS_a ?_); conv => whnf) | ((with_reducible refine bld_a ?_); conv => whnf) | ((with_reducible refine own_e ?_); conv => whnf) | ((with_reducible refine mkmap_b ?_); conv => whnf)))
        refine ⟨k + 1, ⟨by omega, fun i y hi hy => ?_⟩, le_mk ⟨rfl, rfl, rfl, rfl, rfl, trivial⟩ ⟨rfl, trivial⟩ rfl, by omega⟩
        rcases Nat.lt_or_ge i k with h' | h'
        · exact hall i y h' hy
        · obtain rfl : i = k := by omega
          rw [hx] at hy; injection hy with hy; subst hy
          simp [markB]; omega
  · have hM := marks_good (by omega) hall
    have hE : rollE s m = 0 := by rw [rollE, if_neg (by simpa using h0), if_neg (by simpa using h1'), if_neg (by simp [hM])]
    clear h hk hall
    (conv => whnf); (repeat (first | (refine arith_i ⟨by omega, by omega⟩ ?_; conv => whnf) | (refine need_i (by first | omega | (simp only [List.length_append, List.length_cons, List.length_nil]; omega)) ?_; conv => whnf) | ((with_reducible refine branch_tt ?_); conv => whnf) | ((with_reducible refine branch_ff ?_); conv => whnf) | (with_reducible refine branch_not ?_) | ((with_reducible refine slc_e ?_); conv => whnf) | ((with_reducible refine callS_a ?_); conv => whnf) | ((with_reducible refine bld_a ?_); conv => whnf) | ((with_reducible refine own_e ?_); conv => whnf) | ((with_reducible refine mkmap_b ?_); conv => whnf)))
    refine call_e (clone_ok m (by omega)) ?_
    (conv => whnf); (repeat (first | (refine arith_i ⟨by omega, by omega⟩ ?_; conv => whnf) | (refine need_i (by first | omega | (simp only [List.length_append, List.length_cons, List.length_nil]; omega)) ?_; conv => whnf) | ((with_reducible refine branch_tt ?_); conv => whnf) | ((with_reducible refine branch_ff ?_); conv => whnf) | (with_reducible refine branch_not ?_) | ((with_reducible refine slc_e ?_); conv => whnf) | ((with_reducible refine callS_a ?_); conv => whnf) | ((with_reducible refine bld_a ?_); conv => whnf) | ((with_reducible refine own_e ?_); conv => whnf) | ((with_reducible refine mkmap_b ?_); conv => whnf)))
    refine loop_i (fun i : Nat => i ≤ s.tops.length) (fun i => mkSt [(2, .ptr 2 0), (9, .own 37 3 1 ((mids s m i).map encI)), (10, .int .i64 (i - 1))] [(2, sylC s)] false) (fun i => i) s.tops.length (Nat.le_refl _) (le_mk ⟨rfl, by rw [mids_start h1']; rfl, int_eq (by rw [L2, h1']), trivial⟩ ⟨rfl, trivial⟩ rfl) ?_
    intro i hi
    have M := mids_len (s := s) (m := m) (i := i)
    (conv => whnf); (repeat (first | (refine arith_i ⟨by omega, by omega⟩ ?_; conv => whnf) | (refine need_i (by first | omega | (simp only [List.length_append, List.length_cons, List.length_nil]; omega)) ?_; conv => whnf) | ((with_reducible refine branch_tt ?_); conv => whnf) | ((with_reducible refine branch_ff ?_); conv => whnf) | (with_reducible refine branch_not ?_) | ((with_reducible refine slc_e ?_); conv => whnf) | ((with_reducible refine callS_a ?_); conv => whnf) | ((with_reducible refine bld_a ?_); conv => whnf) | ((with_reducible refine own_e ?_); conv => whnf) | ((with_reducible refine mkmap_b ?_); conv => whnf)))
    refine branch_d (fun h => ?_) (fun h => ?_)
    · obtain ⟨x, rfl⟩ : ∃ x, i = x + 1 := ⟨i - 1, by omega⟩
      (conv => whnf); (repeat (first | (refine arith_i ⟨by omega, by omega⟩ ?_; conv => whnf) | (refine need_i (by first | omega | (simp only [List.length_append, List.length_cons, List.length_nil]; omega)) ?_; conv => whnf) | ((with_reducible refine branch_tt ?_); conv => whnf) | ((with_reducible refine branch_ff ?_); conv => whnf) | (with_reducible refine branch_not ?_) | ((with_reducible refine slc_e ?_); conv => whnf) | ((with_reducible refine callS_a ?_); conv => whnf) | ((with_reducible refine bld_a ?_); conv => whnf) | ((with_reducible refine own_e ?_); conv => whnf) | ((with_reducible refine mkmap_b ?_); conv => whnf)))
      refine idx_m (by omega) (by omega) fun t ht => ?_
      rw [show (((x + 1 : Nat) : Int) - 1).toNat = x by omega] at ht
      have e := par_at ht
      have v := hV x
      (conv => whnf); (repeat (first | (refine arith_i ⟨by omega, by omega⟩ ?_; conv => whnf) | (refine need_i (by first | omega | (simp only [List.length_append, List.length_cons, List.length_nil]; omega)) ?_; conv => whnf) | ((with_reducible refine branch_tt ?_); conv => whnf) | ((with_reducible refine branch_ff ?_); conv => whnf) | (with_reducible refine branch_not ?_) | ((with_reducible refine slc_e ?_); conv => whnf) | ((with_reducible refine callS_a ?_); conv => whnf) | ((with_reducible refine bld_a ?_); conv => whnf) | ((with_reducible refine own_e ?_); conv => whnf) | ((with_reducible refine mkmap_b ?_); conv => whnf)))
      refine branch_d (fun h2 => ?_) (fun h2 => ?_)
      · (conv => whnf); (repeat (first | (refine arith_i ⟨by omega, by omega⟩ ?_; conv => whnf) | (refine need_i (by first | omega | (simp only [List.length_append, List.length_cons, List.length_nil]; omega)) ?_; conv => whnf) | ((with_reducible refine branch_tt ?_); conv => whnf) | ((with_reducible refine branch_ff ?_); conv => whnf) | (with_reducible refine branch_not ?_) | ((with_reducible refine slc_e ?_); conv => whnf) | ((with_reducible refine callS_a ?_); conv => whnf) | ((with_reducible refine bld_a ?_); conv => whnf) | ((with_reducible refine own_e ?_); conv => whnf) | ((with_reducible refine mkmap_b ?_); conv => whnf)))
        refine draw_i 10 (.take 0 (.take 1 (.take 2 (.take 4 (.take 5 (.take 6 (.alt 3 (.alt 7 (.take 8 (.take 9 (.alt 10 .done .stop))) .stop) (.alt 7 (.alt 3 (.take 8 (.take 9 (.alt 10 .done .stop))) .stop) .stop)))))))) (by decide +kernel) ?_
        (conv => whnf); (repeat (first | (refine arith_i ⟨by omega, by omega⟩ ?_; conv => whnf) | (refine need_i (by first | omega | (simp only [List.length_append, List.length_cons, List.length_nil]; omega)) ?_; conv => whnf) | ((with_reducible refine branch_tt ?_); conv => whnf) | ((with_reducible refine branch_ff ?_); conv => whnf) | (with_reducible refine branch_not ?_) | ((with_reducible refine slc_e ?_); conv => whnf) | ((with_reducible refine callS_a ?_); conv => whnf) | ((with_reducible refine bld_a ?_); conv => whnf) | ((with_reducible refine own_e ?_); conv => whnf) | ((with_reducible refine mkmap_b ?_); conv => whnf)))
        refine idx_m (by omega) (by omega) fun a ha => ?_
        (conv => whnf); (repeat (first | (refine arith_i ⟨by omega, by omega⟩ ?_; conv => whnf) | (refine need_i (by first | omega | (simp only [List.length_append, List.length_cons, List.length_nil]; omega)) ?_; conv => whnf) | ((with_reducible refine branch_tt ?_); conv => whnf) | ((with_reducible refine branch_ff ?_); conv => whnf) | (with_reducible refine branch_not ?_) | ((with_reducible refine slc_e ?_); conv => whnf) | ((with_reducible refine callS_a ?_); conv => whnf) | ((with_reducible refine bld_a ?_); conv => whnf) | ((with_reducible refine own_e ?_); conv => whnf) | ((with_reducible refine mkmap_b ?_); conv => whnf)))
        refine idx_m (by omega) (by omega) fun b hb => ?_
        rw [show (((x + 1 : Nat) : Int) - 1).toNat = x by omega, mids_at (by omega)] at hb
        injection hb with hb
        rw [mids_at (by omega)] at ha
        injection ha with ha
        have ba := mid_in hn hM (x + 1) t.parent.toNat
        have bb := mid_in hn hM (x + 1) x
        rw [ha] at ba
        rw [hb] at bb
        have es : ((mids s m (x + 1)).map encI).modify t.parent.toNat (fun y => y.set 0 (.int .i64 (a + b))) = (mids s m x).map encI := by
          rw [encI_set, ← mids_set hV (by omega) (by omega : 0 ≤ parF s x), e, ha, hb]
        (conv => whnf); (repeat (first | (refine arith_i ⟨by omega, by omega⟩ ?_; conv => whnf) | (refine need_i (by first | omega | (simp only [List.length_append, List.length_cons, List.length_nil]; omega)) ?_; conv => whnf) | ((with_reducible refine branch_tt ?_); conv => whnf) | ((with_reducible refine branch_ff ?_); conv => whnf) | (with_reducible refine branch_not ?_) | ((with_reducible refine slc_e ?_); conv => whnf) | ((with_reducible refine callS_a ?_); conv => whnf) | ((with_reducible refine bld_a ?_); conv => whnf) | ((with_reducible refine own_e ?_); conv => whnf) | ((with_reducible refine mkmap_b ?_); conv => whnf)))
        refine ⟨?_, ?_, trivial⟩
        · (conv => whnf); (repeat (first | (refine arith_i ⟨by omega, by omega⟩ ?_; conv => whnf) | (refine need_i (by first | omega | (simp only [List.length_append, List.length_cons, List.length_nil]; omega)) ?_; conv => whnf) | ((with_reducible refine branch_tt ?_); conv => whnf) | ((with_reducible refine branch_ff ?_); conv => whnf) | (with_reducible refine branch_not ?_) | ((with_reducible refine slc_e ?_); conv => whnf) | ((with_reducible refine callS_a ?_); conv => whnf) | ((with_reducible refine bld_a ?_); conv => whnf) | ((with_reducible refine own_e ?_); conv => whnf) | ((with_reducible refine mkmap_b ?_); conv => whnf)))
          refine ⟨?_, trivial⟩
          (conv => whnf); (repeat (first | (refine arith_i ⟨by omega, by omega⟩ ?_; conv => whnf) | (refine need_i (by first | omega | (simp only [List.length_append, List.length_cons, List.length_nil]; omega)) ?_; conv => whnf) | ((with_reducible refine branch_tt ?_); conv => whnf) | ((with_reducible refine branch_ff ?_); conv => whnf) | (with_reducible refine branch_not ?_) | ((with_reducible refine slc_e ?_); conv => whnf) | ((with_reducible refine callS_a ?_); conv => whnf) | ((with_reducible refine bld_a ?_); conv => whnf) | ((with_reducible refine own_e ?_); conv => whnf) | ((with_reducible refine mkmap_b ?_); conv => whnf)))
          refine idx_m (by omega) (by omega) fun c hc => ?_
          (conv => whnf); (repeat (first | (refine arith_i ⟨by omega, by omega⟩ ?_; conv => whnf) | (refine need_i (by first | omega | (simp only [List.length_append, List.length_cons, List.length_nil]; omega)) ?_; conv => whnf) | ((with_reducible refine branch_tt ?_); conv => whnf) | ((with_reducible refine branch_ff ?_); conv => whnf) | (with_reducible refine branch_not ?_) | ((with_reducible refine slc_e ?_); conv => whnf) | ((with_reducible refine callS_a ?_); conv => whnf) | ((with_reducible refine bld_a ?_); conv => whnf) | ((with_reducible refine own_e ?_); conv => whnf) | ((with_reducible refine mkmap_b ?_); conv => whnf)))
          refine ⟨?_, trivial⟩
          (conv => whnf); (repeat (first | (refine arith_i ⟨by omega, by omega⟩ ?_; conv => whnf) | (refine need_i (by first | omega | (simp only [List.length_append, List.length_cons, List.length_nil]; omega)) ?_; conv => whnf) | ((with_reducible refine branch_tt ?_); conv => whnf) | ((with_reducible refine branch_ff ?_); conv => whnf) | (with_reducible refine branch_not ?_) | ((with_reducible refine slc_e ?_); conv => whnf) | ((with_reducible refine callS_a ?_); conv => whnf) | ((with_reducible refine bld_a ?_); conv => whnf) | ((with_reducible refine own_e ?_); conv => whnf) | ((with_reducible refine mkmap_b ?_); conv => whnf)))
          exact ⟨x, by omega, le_mk ⟨rfl, congrArg (AV.own 37 3 1) es, int_eq (by omega), trivial⟩ ⟨rfl, trivial⟩ rfl, by omega⟩
        · (conv => whnf); (repeat (first | (refine arith_i ⟨by omega, by omega⟩ ?_; conv => whnf) | (refine need_i (by first | omega | (simp only [List.length_append, List.length_cons, List.length_nil]; omega)) ?_; conv => whnf) | ((with_reducible refine branch_tt ?_); conv => whnf) | ((with_reducible refine branch_ff ?_); conv => whnf) | (with_reducible refine branch_not ?_) | ((with_reducible refine slc_e ?_); conv => whnf) | ((with_reducible refine callS_a ?_); conv => whnf) | ((with_reducible refine bld_a ?_); conv => whnf) | ((with_reducible refine own_e ?_); conv => whnf) | ((with_reducible refine mkmap_b ?_); conv => whnf)))
          refine ⟨?_, trivial⟩
          (conv => whnf); (repeat (first | (refine arith_i ⟨by omega, by omega⟩ ?_; conv => whnf) | (refine need_i (by first | omega | (simp only [List.length_append, List.length_cons, List.length_nil]; omega)) ?_; conv => whnf) | ((with_reducible refine branch_tt ?_); conv => whnf) | ((with_reducible refine branch_ff ?_); conv => whnf) | (with_reducible refine branch_not ?_) | ((with_reducible refine slc_e ?_); conv => whnf) | ((with_reducible refine callS_a ?_); conv => whnf) | ((with_reducible refine bld_a ?_); conv => whnf) | ((with_reducible refine own_e ?_); conv => whnf) | ((with_reducible refine mkmap_b ?_); conv => whnf)))
          refine idx_m (by omega) (by omega) fun c hc => ?_
          (conv => whnf); (repeat (first | (refine arith_i ⟨by omega, by omega⟩ ?_; conv => whnf) | (refine need_i (by first | omega | (simp only [List.length_append, List.length_cons, List.length_nil]; omega)) ?_; conv => whnf) | ((with_reducible refine branch_tt ?_); conv => whnf) | ((with_reducible refine branch_ff ?_); conv => whnf) | (with_reducible refine branch_not ?_) | ((with_reducible refine slc_e ?_); conv => whnf) | ((with_reducible refine callS_a ?_); conv => whnf) | ((with_reducible refine bld_a ?_); conv => whnf) | ((with_reducible refine own_e ?_); conv => whnf) | ((with_reducible refine mkmap_b ?_); conv => whnf)))
          refine ⟨?_, trivial⟩
          (conv => whnf); (repeat (first | (refine arith_i ⟨by omega, by omega⟩ ?_; conv => whnf) | (refine need_i (by first | omega | (simp only [List.length_append, List.length_cons, List.length_nil]; omega)) ?_; conv => whnf) | ((with_reducible refine branch_tt ?_); conv => whnf) | ((with_reducible refine branch_ff ?_); conv => whnf) | (with_reducible refine branch_not ?_) | ((with_reducible refine slc_e ?_); conv => whnf) | ((with_reducible refine callS_a ?_); conv => whnf) | ((with_reducible refine bld_a ?_); conv => whnf) | ((with_reducible refine own_e ?_); conv => whnf) | ((with_reducible refine mkmap_b ?_); conv => whnf)))
          exact ⟨x, by omega, le_mk ⟨rfl, congrArg (AV.own 37 3 1) es, int_eq (by omega), trivial⟩ ⟨rfl, trivial⟩ rfl, by omega⟩
      · (conv => whnf); (repeat (first | (refine arith_i ⟨by omega, by omega⟩ ?_; conv => whnf) | (refine need_i (by first | omega | (simp only [List.length_append, List.length_cons, List.length_nil]; omega)) ?_; conv => whnf) | ((with_reducible refine branch_tt ?_); conv => whnf) | ((with_reducible refine branch_ff ?_); conv => whnf) | (with_reducible refine branch_not ?_) | ((with_reducible refine slc_e ?_); conv => whnf) | ((with_reducible refine callS_a ?_); conv => whnf) | ((with_reducible refine bld_a ?_); conv => whnf) | ((with_reducible refine own_e ?_); conv => whnf) | ((with_reducible refine mkmap_b ?_); conv => whnf)))
        exact ⟨x, by omega, le_mk ⟨rfl, by rw [← mids_skip (s := s) (m := m) (x := x) hV (by omega) (by omega)]; rfl, int_eq (by omega), trivial⟩ ⟨rfl, trivial⟩ rfl, by omega⟩
    · (conv => whnf); (repeat (first | (refine arith_i ⟨by omega, by omega⟩ ?_; conv => whnf) | (refine need_i (by first | omega | (simp only [List.length_append, List.length_cons, List.length_nil]; omega)) ?_; conv => whnf) | ((with_reducible refine branch_tt ?_); conv => whnf) | ((with_reducible refine branch_ff ?_); conv => whnf) | (with_reducible refine branch_not ?_) | ((with_reducible refine slc_e ?_); conv => whnf) | ((with_reducible refine callS_a ?_); conv => whnf) | ((with_reducible refine bld_a ?_); conv => whnf) | ((with_reducible refine own_e ?_); conv => whnf) | ((with_reducible refine mkmap_b ?_); conv => whnf)))
      have hi0 : i = 0 := by omega
      subst hi0
      exact ret_t (rs := [ints (mids s m 0), .int .i64 0]) ⟨rc_o.g, (rc_p rfl).g, trivial⟩ (by rw [hE, rollL, if_pos hE, mids_end])
end Go.Proofs.Ytkmagoljpfpgmaa
