/- Layer 9: the generator Tree. -/
import Derived.Test.YtbjbhokkdnhfeaaGL09m

namespace Go.Proofs.Ytbjbhokkdnhfeaa
set_option linter.unusedVariables false
set_option linter.unusedSimpArgs false
set_option linter.unnecessarySimpa false
set_option linter.unusedSectionVars false
set_option maxRecDepth 10000
open Go.RowKit

/-- How many options are undecided. -/
def und : List Int → Nat
  | [] => 0
  | x :: l => (if x = -1 then 1 else 0) + und l
theorem und_set {x : Int} (hx : x ≠ -1) : ∀ {s : List Int} {v : Nat}, s[v]? = some (-1) → und (s.set v x) + 1 = und s
  | [], v, h => by simp at h
  | y :: s, 0, h => by
    simp at h
    subst h
    simp [und, hx]; omega
  | y :: s, v + 1, h => by
    have := und_set hx (s := s) (v := v) (by simpa using h)
    simp only [List.set_cons_succ, und]
    omega
def wt (s : List Int) : Nat := 2 ^ (und s + 1) - 1
def wsum : List (List Int) → Nat
  | [] => 0
  | s :: l => wt s + wsum l
theorem wsum_append (a b : List (List Int)) : wsum (a ++ b) = wsum a + wsum b := by
  induction a with
  | nil => simp [wsum]
  | cons x a ih => simp only [List.cons_append, wsum, ih]; omega
theorem wt_pos (s : List Int) : 1 ≤ wt s := by
  have := Nat.one_le_two_pow (n := und s)
  unfold wt
  rw [Nat.pow_succ]
  omega
theorem len_wsum (l : List (List Int)) : l.length ≤ wsum l := by
  induction l with
  | nil => simp [wsum]
  | cons s l ih => have := wt_pos s; simp only [List.length_cons, wsum]; omega
theorem wt_set {s : List Int} {v : Nat} {x : Int} (hx : x ≠ -1) (h : s[v]? = some (-1)) : 2 * wt (s.set v x) + 1 = wt s := by
  have h1 := und_set hx h
  have h2 := Nat.one_le_two_pow (n := und (s.set v x))
  unfold wt
  rw [← h1, Nat.pow_succ, Nat.pow_succ]
  omega
/-- How many nodes are branches. -/
def brs : List Nd → Nat
  | [] => 0
  | n :: l => (if n.kind = 1 then 1 else 0) + brs l
theorem brs_snoc (l : List Nd) (n : Nd) : brs (l ++ [n]) = brs l + if n.kind = 1 then 1 else 0 := by
  induction l with
  | nil => simp [brs]
  | cons x l ih => simp only [List.cons_append, brs, ih]; omega
/-- A node of a tree as the tape makes it; z: where its children lie, if it is a branch. -/
def TNode (P : Prog) (full : Bool) (S : List (List Int)) (z j : Nat) (n : Nd) (s : List Int) : Prop :=
  (n.kind = 1 ∧ n.zero = z ∧ n.one = z + 1 ∧ j < z ∧ 0 ≤ n.var ∧ n.var < P.costs.length ∧ nth s n.var.toNat = -1 ∧ S[z]? = some (s.set n.var.toNat 0) ∧ S[z + 1]? = some (s.set n.var.toNat 1)) ∨
  (full = true ∧ 0 ≤ deadF P s ∧ n = ⟨2, 0, 0, 0, deadF P s, 0, 0⟩) ∨ (full = true ∧ deadF P s < 0 ∧ (∀ x ∈ s, x ≠ -1) ∧ n = ⟨3, 0, 0, 0, -1, 0, 1⟩) ∨ (full = false ∧ LeafG P s n)
structure TreeInv (P : Prog) (full : Bool) (i : Nat) (S : List (List Int)) (l : List Nd) : Prop where
  li : l.length = i
  iS : i ≤ S.length
  Sl : S.length = 1 + 2 * brs l
  root : S[0]? = some (List.replicate P.costs.length (-1))
  tri : ∀ s ∈ S, stOB s P.costs.length = true
  node : ∀ (j : Nat) n s, l[j]? = some n → S[j]? = some s → TNode P full S (1 + 2 * brs (l.take j)) j n s
  size : i + wsum (S.drop i) ≤ 2 ^ (P.costs.length + 1) - 1
  pre : ∀ j, j < i → j < 1 + 2 * brs (l.take j)
section
variable {P : Prog} {full : Bool} {i : Nat} {S : List (List Int)} {l : List Nd} {s : List Int} {n : Nd}
theorem TreeInv.start : TreeInv P full 0 [List.replicate P.costs.length (-1)] [] := by
  have hu : ∀ k, und (List.replicate k (-1)) = k := fun k => by
    induction k with
    | zero => rfl
    | succ k ih => rw [List.replicate_succ, und, ih]; simp; omega
  refine ⟨rfl, by simp, rfl, rfl, fun s hs => ?_, fun j n s h => by simp at h, ?_, fun j hj => by omega⟩
  · rw [List.mem_singleton.1 hs]
    simp [stOB, tri9]
  · simp only [List.drop_zero, wsum, wt, hu]
    omega
theorem TreeInv.leaf (h : TreeInv P full i S l) (hs : S[i]? = some s) (hk : n.kind ≠ 1) (hn : (full = true ∧ 0 ≤ deadF P s ∧ n = ⟨2, 0, 0, 0, deadF P s, 0, 0⟩) ∨ (full = true ∧ deadF P s < 0 ∧ (∀ x ∈ s, x ≠ -1) ∧ n = ⟨3, 0, 0, 0, -1, 0, 1⟩) ∨ (full = false ∧ LeafG P s n)) :
    TreeInv P full (i + 1) S (l ++ [n]) ∧ wsum (S.drop (i + 1)) < wsum (S.drop i) := by
  have hlt := (List.getElem?_eq_some_iff.1 hs).1
  have hw : wsum (S.drop i) = wt s + wsum (S.drop (i + 1)) := by rw [drop_at hs, wsum]
  have hp := wt_pos s
  have hli := h.li
  refine ⟨⟨by simp [hli], hlt, by rw [brs_snoc, if_neg hk]; exact h.Sl, h.root, h.tri, fun j n' s' h1 h2 => ?_, by have := h.size; omega, fun j hj => by
      rcases Nat.lt_or_ge j i with hji | hji
      · rw [List.take_append_of_le_length (by omega)]; exact h.pre j hji
      · rw [List.take_append_of_le_length (by omega), List.take_of_length_le (by omega)]; have := h.Sl; omega⟩, by omega⟩
  rcases Nat.lt_or_ge j i with hj | hj
  · rw [List.getElem?_append_left (by omega)] at h1
    rw [List.take_append_of_le_length (by omega)]
    exact h.node j n' s' h1 h2
  · have hjl : j < (l ++ [n]).length := (List.getElem?_eq_some_iff.1 h1).1
    obtain rfl : j = i := by simp at hjl; omega
    have e : n' = n := by
      rw [List.getElem?_append_right (by omega), hli, Nat.sub_self] at h1
      simpa using h1.symm
    rw [hs] at h2
    injection h2 with h2
    subst h2
    subst e
    exact .inr hn
theorem TreeInv.branch (h : TreeInv P full i S l) (hs : S[i]? = some s) {v : Nat} (hv : s[v]? = some (-1)) : TreeInv P full (i + 1) (S ++ [s.set v 0, s.set v 1]) (l ++ [⟨1, v, S.length, S.length + 1, 0, 0, 0⟩]) ∧ wsum ((S ++ [s.set v 0, s.set v 1]).drop (i + 1)) < wsum (S.drop i) := by
  have hlt := (List.getElem?_eq_some_iff.1 hs).1
  have hvl := (List.getElem?_eq_some_iff.1 hv).1
  have hw : wsum (S.drop i) = wt s + wsum (S.drop (i + 1)) := by rw [drop_at hs, wsum]
  have hsO := h.tri s (List.mem_of_getElem? hs)
  have hsl := st_len hsO
  have h0 := wt_set (x := 0) (by omega) hv
  have h1 := wt_set (x := 1) (by omega) hv
  have hd : (S ++ [s.set v 0, s.set v 1]).drop (i + 1) = S.drop (i + 1) ++ [s.set v 0, s.set v 1] := by
    rw [List.drop_append_of_le_length (by omega)]
  have hws : wsum ((S ++ [s.set v 0, s.set v 1]).drop (i + 1)) + 1 = wsum (S.drop i) := by
    rw [hd, wsum_append, hw]
    simp only [wsum]
    omega
  have hli := h.li
  have hSl := h.Sl
  refine ⟨⟨by simp [hli], by simp; omega, by rw [brs_snoc, if_pos rfl]; simp; omega, ?_, fun x hx => ?_, fun j n' s' g1 g2 => ?_, by have := h.size; omega, fun j hj => by
      rcases Nat.lt_or_ge j i with hji | hji
      · rw [List.take_append_of_le_length (by omega)]; exact h.pre j hji
      · rw [List.take_append_of_le_length (by omega), List.take_of_length_le (by omega)]; have := h.Sl; omega⟩, by omega⟩
  · rw [List.getElem?_append_left (by omega)]; exact h.root
  · rcases List.mem_append.1 hx with hx | hx
    · exact h.tri x hx
    · simp at hx
      rcases hx with rfl | rfl
      · exact stO_set hsO (by omega)
      · exact stO_set hsO (by omega)
  · rcases Nat.lt_or_ge j i with hj | hj
    · rw [List.getElem?_append_left (by omega)] at g1
      rw [List.getElem?_append_left (by omega)] at g2
      rw [List.take_append_of_le_length (by omega)]
      rcases h.node j n' s' g1 g2 with ⟨a1, a2, a3, a4, a5, a6, a7, a8, a9⟩ | a
      · refine .inl ⟨a1, a2, a3, a4, a5, a6, a7, ?_, ?_⟩
        · rw [List.getElem?_append_left (List.getElem?_eq_some_iff.1 a8).1]; exact a8
        · rw [List.getElem?_append_left (List.getElem?_eq_some_iff.1 a9).1]; exact a9
      · exact .inr a
    · have hjl := (List.getElem?_eq_some_iff.1 g1).1
      obtain rfl : j = i := by simp at hjl; omega
      have e : n' = ⟨1, v, S.length, S.length + 1, 0, 0, 0⟩ := by
        rw [List.getElem?_append_right (by omega), hli, Nat.sub_self] at g1
        simpa using g1.symm
      rw [List.getElem?_append_left (by omega), hs] at g2
      injection g2 with g2
      subst g2
      subst e
      have et : (l ++ [(⟨1, v, S.length, S.length + 1, 0, 0, 0⟩ : Nd)]).take j = l := by
        rw [List.take_append_of_le_length (by omega), List.take_of_length_le (by omega)]
      rw [et, ← hSl]
      refine .inl ⟨rfl, rfl, rfl, hlt, by show (0 : Int) ≤ v; omega, by show (v : Int) < _; omega, ?_, ?_, ?_⟩
      · show nth s (v : Int).toNat = -1
        rw [Int.toNat_natCast, nth_eq hv]
      · show (S ++ [s.set v 0, s.set v 1])[S.length]? = some (s.set (v : Int).toNat 0)
        rw [List.getElem?_append_right (by omega), Nat.sub_self, Int.toNat_natCast]; rfl
      · show (S ++ [s.set v 0, s.set v 1])[S.length + 1]? = some (s.set (v : Int).toNat 1)
        rw [List.getElem?_append_right (by omega), show S.length + 1 - S.length = 1 by omega, Int.toNat_natCast]; rfl
theorem TreeInv.small (h : TreeInv P full i S l) (hc : P.costs.length ≤ 18) : S.length ≤ 524287 := by
  have h1 := h.size
  have h2 := len_wsum (S.drop i)
  have h3 := h.iS
  have h4 : 2 ^ (P.costs.length + 1) ≤ 2 ^ 19 := Nat.pow_le_pow_right (by omega) (by omega)
  rw [List.length_drop] at h2
  omega
end
set_option maxHeartbeats 2000000 in
theorem tree_ok (P : Prog) (full : Bool) (hP : Fits P) (hr0 : P.rows.length ≤ 1000) (hc0 : P.costs.length ≤ 18) : Good Try.prog TT true 9 [.tape, progV P, .bool full] (fun r => ∃ l S, r = ndsV l ∧ TreeInv P full l.length S l ∧ S.length = l.length ∧ l.length ≤ 524287) := by
  have L : (P.costs.map encI).length = P.costs.length := List.length_map ..
  have LR : (P.rows.map encRow).length = P.rows.length := List.length_map ..
  refine good_of mixed tabOk Try.func9 rfl rfl Try.ntmps9 Try.results9 rfl rfl ?_
  (conv => whnf); (repeat' (first | (refine arith_i ⟨by omega, by omega⟩ ?_; conv => whnf) | (refine arith_u ⟨by omega, by omega⟩ ?_; conv => whnf) | (refine arith_8 ⟨by omega, by omega⟩ ?_; conv => whnf) | (refine need_i (by first | omega | (simp only [List.length_append, List.length_cons, List.length_nil, List.length_map, List.length_replicate, List.length_modify]; omega)) ?_; conv => whnf) | ((with_reducible refine branch_tt ?_); conv => whnf) | ((with_reducible refine branch_ff ?_); conv => whnf) | (with_reducible refine branch_not ?_) | ((with_reducible refine slc_e ?_); conv => whnf) | ((with_reducible refine callS_a ?_); conv => whnf) | ((with_reducible refine bld_a ?_); conv => whnf) | ((with_reducible refine own_e ?_); conv => whnf) | ((with_reducible refine branch_d (fun hq => ?_) (fun hq => ?_)) <;> (try (exfalso; omega)) <;> (conv => whnf)) | ((with_reducible refine branch_e (fun hq => ?_) (fun hq => ?_)) <;> (try (exfalso; omega)) <;> (conv => whnf)) | ((with_reducible refine branch_n (fun hq => ?_) (fun hq => ?_)) <;> (try (exfalso; omega)) <;> (conv => whnf)) | ((with_reducible refine branch_i (fun hq => ?_) (fun hq => ?_)) <;> (try (exfalso; omega)) <;> (conv => whnf))))
  refine loop_i (fun k : Nat => k ≤ P.costs.length) (fun k => mkSt [(0, .tape), (2, .bool full), (4, .ptr 4 0), (7, .int .i64 P.costs.length), (8, .own 22 3 1 ((List.replicate k (-1 : Int)).map encI)), (9, .int .i64 k)] [(4, [ints P.costs, rowsV P.rows])] true) (fun k => P.costs.length - k) 0 (Nat.zero_le _) (by rw [← L]; exact (le_mk (by repeat' (first | exact trivial | rfl | apply And.intro)) (by repeat' (first | exact trivial | rfl | apply And.intro)) rfl)) ?_
  intro k hk
  have LK : ((List.replicate k (-1 : Int)).map encI).length = k := by simp
  (conv => whnf); (repeat' (first | (refine arith_i ⟨by omega, by omega⟩ ?_; conv => whnf) | (refine arith_u ⟨by omega, by omega⟩ ?_; conv => whnf) | (refine arith_8 ⟨by omega, by omega⟩ ?_; conv => whnf) | (refine need_i (by first | omega | (simp only [List.length_append, List.length_cons, List.length_nil, List.length_map, List.length_replicate, List.length_modify]; omega)) ?_; conv => whnf) | ((with_reducible refine branch_tt ?_); conv => whnf) | ((with_reducible refine branch_ff ?_); conv => whnf) | (with_reducible refine branch_not ?_) | ((with_reducible refine slc_e ?_); conv => whnf) | ((with_reducible refine callS_a ?_); conv => whnf) | ((with_reducible refine bld_a ?_); conv => whnf) | ((with_reducible refine own_e ?_); conv => whnf) | ((with_reducible refine branch_d (fun hq => ?_) (fun hq => ?_)) <;> (try (exfalso; omega)) <;> (conv => whnf)) | ((with_reducible refine branch_e (fun hq => ?_) (fun hq => ?_)) <;> (try (exfalso; omega)) <;> (conv => whnf)) | ((with_reducible refine branch_n (fun hq => ?_) (fun hq => ?_)) <;> (try (exfalso; omega)) <;> (conv => whnf)) | ((with_reducible refine branch_i (fun hq => ?_) (fun hq => ?_)) <;> (try (exfalso; omega)) <;> (conv => whnf))))
  · have e : (List.replicate (k + 1) (-1 : Int)).map encI = (List.replicate k (-1 : Int)).map encI ++ [[AV.int .i64 (-1)]] := by
      rw [List.replicate_succ', List.map_append]; rfl
    exact ⟨k + 1, by omega, by rw [e]; exact (le_mk (by repeat' (first | exact trivial | rfl | apply And.intro)) (by repeat' (first | exact trivial | rfl | apply And.intro)) rfl), by omega⟩
  · have hk' : k = P.costs.length := by omega
    subst hk'
    refine loop_i3 (fun (i : Nat) (S : List (List Int)) (l : List Nd) => TreeInv P full i S l) (fun i S l => mkSt [(0, .tape), (2, .bool full), (4, .ptr 4 0), (7, .int .i64 P.costs.length), (10, .own 32 22 1 (S.map encS)), (11, .own 11 59 7 (l.map encN)), (12, .int .i64 i)] [(4, [ints P.costs, rowsV P.rows])] true) (fun i S _ => wsum (S.drop i)) 0 [List.replicate P.costs.length (-1)] [] TreeInv.start (Le.trans (le_adopt 11 11 59 7 rfl) (le_mk (by repeat' (first | exact trivial | rfl | apply And.intro)) (by repeat' (first | exact trivial | rfl | apply And.intro)) rfl)) ?_
    intro i S l hT
    have LS : (S.map encS).length = S.length := List.length_map ..
    have LL : (l.map encN).length = l.length := List.length_map ..
    have hli := hT.li
    have hiS := hT.iS
    have hsm := hT.small hc0
    (conv => whnf); (repeat' (first | (refine arith_i ⟨by omega, by omega⟩ ?_; conv => whnf) | (refine arith_u ⟨by omega, by omega⟩ ?_; conv => whnf) | (refine arith_8 ⟨by omega, by omega⟩ ?_; conv => whnf) | (refine need_i (by first | omega | (simp only [List.length_append, List.length_cons, List.length_nil, List.length_map, List.length_replicate, List.length_modify]; omega)) ?_; conv => whnf) | ((with_reducible refine branch_tt ?_); conv => whnf) | ((with_reducible refine branch_ff ?_); conv => whnf) | (with_reducible refine branch_not ?_) | (((refine idx_c (xs := S) (by omega) fun s hs => ?_; have hsO := hT.tri s (List.mem_of_getElem? hs); have hsl := st_len hsO; have LI : (s.map encI).length = s.length := List.length_map ..)); conv => whnf) | ((with_reducible refine slc_e ?_); conv => whnf) | ((with_reducible refine callS_a ?_); conv => whnf) | ((with_reducible refine bld_a ?_); conv => whnf) | ((with_reducible refine own_e ?_); conv => whnf) | ((with_reducible refine branch_d (fun hq => ?_) (fun hq => ?_)) <;> (try (exfalso; omega)) <;> (conv => whnf)) | ((with_reducible refine branch_e (fun hq => ?_) (fun hq => ?_)) <;> (try (exfalso; omega)) <;> (conv => whnf)) | ((with_reducible refine branch_n (fun hq => ?_) (fun hq => ?_)) <;> (try (exfalso; omega)) <;> (conv => whnf)) | ((with_reducible refine branch_i (fun hq => ?_) (fun hq => ?_)) <;> (try (exfalso; omega)) <;> (conv => whnf))))
    · refine loop_i (fun k : Nat => k ≤ P.costs.length ∧ ∀ j x, j < k → s[j]? = some x → x ≠ -1) (fun k => mkSt [(0, .tape), (2, .bool full), (4, .ptr 4 0), (7, .int .i64 P.costs.length), (10, .own 32 22 1 (S.map encS)), (11, .own 11 59 7 (l.map encN)), (12, .int .i64 i), (13, ints s), (14, .int .i64 (-1)), (15, .int .i64 k)] [(4, [ints P.costs, rowsV P.rows])] true) (fun k => P.costs.length - k) 0 ⟨Nat.zero_le _, by omega⟩ (le_mk (by repeat' (first | exact trivial | rfl | apply And.intro)) (by repeat' (first | exact trivial | rfl | apply And.intro)) rfl) ?_
      rintro k ⟨hk, hall⟩
      cases full
      all_goals
       (conv => whnf); (repeat' (first | (refine arith_i ⟨by omega, by omega⟩ ?_; conv => whnf) | (refine arith_u ⟨by omega, by omega⟩ ?_; conv => whnf) | (refine arith_8 ⟨by omega, by omega⟩ ?_; conv => whnf) | (refine need_i (by first | omega | (simp only [List.length_append, List.length_cons, List.length_nil, List.length_map, List.length_replicate, List.length_modify]; omega)) ?_; conv => whnf) | ((with_reducible refine branch_tt ?_); conv => whnf) | ((with_reducible refine branch_ff ?_); conv => whnf) | (with_reducible refine branch_not ?_) | ((first | refine idx_cs (by assumption) ?_ | (refine idx_c (xs := s) (by omega) fun x hx => ?_) | (refine idx_ms (by omega) (by assumption) ?_)); conv => whnf) | ((refine call_e (rDead_ok P s hP (by omega)) ?_); conv => whnf) | (((refine call_i (next_ok _ (by omega)) fun r hr => ?_; obtain ⟨m1, rfl, -, h6⟩ := hr; have hm1 := h6 (by omega))); conv => whnf) | (((refine call_i (leafG_ok P s hP (by omega) hr0) fun r hr => ?_; obtain ⟨nl, rfl, hleaf⟩ := hr)); conv => whnf) | ((with_reducible refine slc_e ?_); conv => whnf) | ((with_reducible refine callS_a ?_); conv => whnf) | ((with_reducible refine bld_a ?_); conv => whnf) | ((with_reducible refine own_e ?_); conv => whnf) | ((with_reducible refine branch_d (fun hq => ?_) (fun hq => ?_)) <;> (try (exfalso; omega)) <;> (conv => whnf)) | ((with_reducible refine branch_e (fun hq => ?_) (fun hq => ?_)) <;> (try (exfalso; omega)) <;> (conv => whnf)) | ((with_reducible refine branch_n (fun hq => ?_) (fun hq => ?_)) <;> (try (exfalso; omega)) <;> (conv => whnf)) | ((with_reducible refine branch_i (fun hq => ?_) (fun hq => ?_)) <;> (try (exfalso; omega)) <;> (conv => whnf))))
      all_goals first
        | (refine ⟨k + 1, ⟨by omega, fun j y hj hy => ?_⟩, (le_mk (by repeat' (first | exact trivial | rfl | apply And.intro)) (by repeat' (first | exact trivial | rfl | apply And.intro)) rfl), by omega⟩
           by_cases e : j = k
           · subst e; rw [hx] at hy; injection hy with hy; subst hy; assumption
           · exact hall j y (by omega) hy)
        | (have key := hT.leaf (n := ⟨2, 0, 0, 0, deadF P s, 0, 0⟩) hs (by show (2 : Int) ≠ 1; omega) (.inl ⟨rfl, by assumption, rfl⟩)
           exact ⟨i + 1, S, _, key.1, le_mk ⟨rfl, rfl, rfl, rfl, rfl, own_snoc (enc := encN) ⟨2, 0, 0, 0, deadF P s, 0, 0⟩, rfl, trivial⟩ ⟨rfl, trivial⟩ rfl, key.2⟩)
        | (have key := hT.leaf (n := ⟨3, 0, 0, 0, -1, 0, 1⟩) hs (by show (3 : Int) ≠ 1; omega) (.inr (.inl ⟨rfl, by omega, fun x hx => by
             obtain ⟨j, hj, e⟩ := List.mem_iff_getElem.1 hx
             exact hall j x (by omega) (by rw [← e]; exact List.getElem?_eq_getElem hj), rfl⟩))
           exact ⟨i + 1, S, _, key.1, le_mk ⟨rfl, rfl, rfl, rfl, rfl, own_snoc (enc := encN) ⟨3, 0, 0, 0, -1, 0, 1⟩, rfl, trivial⟩ ⟨rfl, trivial⟩ rfl, key.2⟩)
        | (have hk1 : nl.kind ≠ 1 := by rcases hleaf with h | h <;> omega
           have key := hT.leaf (n := nl) hs hk1 (.inr (.inr ⟨rfl, hleaf⟩))
           exact ⟨i + 1, S, _, key.1, le_mk ⟨rfl, rfl, rfl, rfl, rfl, own_snoc (enc := encN) nl, rfl, trivial⟩ ⟨rfl, trivial⟩ rfl, key.2⟩)
        | (have hx1 : x = -1 := by assumption
           rw [hx1] at hx
           have key := hT.branch hs hx
           refine ⟨i + 1, _, _, key.1, le_mk ⟨rfl, rfl, rfl, rfl, ?_, ?_, rfl, trivial⟩ ⟨rfl, trivial⟩ rfl, key.2⟩
           · have e : (S ++ [s.set k 0, s.set k 1]).map encS = S.map encS ++ [[ints (s.set k 0)], [ints (s.set k 1)]] := by rw [List.map_append]; rfl
             rw [e]
             simp only [ints]
             rw [← encI_set, ← encI_set]
             rfl
           · have e : (l ++ [(⟨1, k, S.length, S.length + 1, 0, 0, 0⟩ : Nd)]).map encN = l.map encN ++ [encN ⟨1, k, (S.map encS).length, (S.map encS).length + 1, 0, 0, 0⟩] := by rw [List.map_append, LS]; rfl
             rw [e]
             rfl)
    · exact ret_ol ⟨l, S, rfl, hli ▸ hT, by omega, by omega⟩
end Go.Proofs.Ytbjbhokkdnhfeaa
