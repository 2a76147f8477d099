/- Layer 8 by the interpreter: the ranges of a blueprint. -/
import Derived.Test.YtjgaacjfoaohnaaGL06a
namespace Go.Proofs.Ytjgaacjfoaohnaa
set_option linter.unusedVariables false
set_option linter.unusedSimpArgs false
set_option maxRecDepth 10000
open Go.RowKit

structure Rng where
  index : Int
  least : Int
  most : Int
def encRng (r : Rng) : List AV := [.int .i64 r.index, .int .i64 r.least, .int .i64 r.most]
def rngsV (l : List Rng) : AV := .lst 3 (l.map encRng)
def totB (x : Int) : Bool := decide (0 ≤ x) && decide (x ≤ 200)
def rngB (c : Int) (r : Rng) : Bool := insideB r.index (c - 1) && totB r.least && totB r.most
def rangesF (c : Int) (seen : List Rng) : List Rng → Int
  | [] => 0
  | r :: rs => if rngB c r = false then 2 else if seen.any (·.index == r.index) then 5 else rangesF c (seen ++ [r]) rs
theorem ranges_step {c : Int} {l : List Rng} {k : Nat} {r : Rng} (h : l[k]? = some r) : rangesF c (l.take k) (l.drop k) = if rngB c r = false then 2 else if (l.take k).any (·.index == r.index) then 5 else rangesF c (l.take (k + 1)) (l.drop (k + 1)) := by
  obtain ⟨hk, he⟩ := List.getElem?_eq_some_iff.1 h
  rw [List.drop_eq_getElem_cons hk, he, rangesF, List.take_add_one, h]
  rfl
theorem inside8_ok (x m : Int) : Good Try.prog TT false 70 [.int .i64 x, .int .i64 m] (· = .bool (insideB x m)) := by
  refine good_of mixed tabOk Try.func70 rfl rfl Try.ntmps70 Try.results70 rfl rfl ?_
  (conv => whnf); (repeat (first | (refine arith_i ⟨by omega, by omega⟩ ?_; conv => whnf) | (refine need_i (by first | omega | (simp only [List.length_append, List.length_cons, List.length_nil]; omega)) ?_; conv => whnf) | ((with_reducible refine branch_tt ?_); conv => whnf) | ((with_reducible refine branch_ff ?_); conv => whnf) | (with_reducible refine branch_not ?_) | ((with_reducible refine slc_e ?_); conv => whnf) | ((with_reducible refine callS_a ?_); conv => whnf) | ((with_reducible refine own_e ?_); conv => whnf)))
  refine branch_d (fun h => ?_) (fun h => ?_)
  · (conv => whnf); (repeat (first | (refine arith_i ⟨by omega, by omega⟩ ?_; conv => whnf) | (refine need_i (by first | omega | (simp only [List.length_append, List.length_cons, List.length_nil]; omega)) ?_; conv => whnf) | ((with_reducible refine branch_tt ?_); conv => whnf) | ((with_reducible refine branch_ff ?_); conv => whnf) | (with_reducible refine branch_not ?_) | ((with_reducible refine slc_e ?_); conv => whnf) | ((with_reducible refine callS_a ?_); conv => whnf) | ((with_reducible refine own_e ?_); conv => whnf)))
    exact ret_p rfl (bool_eq (by simp [insideB]; omega))
  · (conv => whnf); (repeat (first | (refine arith_i ⟨by omega, by omega⟩ ?_; conv => whnf) | (refine need_i (by first | omega | (simp only [List.length_append, List.length_cons, List.length_nil]; omega)) ?_; conv => whnf) | ((with_reducible refine branch_tt ?_); conv => whnf) | ((with_reducible refine branch_ff ?_); conv => whnf) | (with_reducible refine branch_not ?_) | ((with_reducible refine slc_e ?_); conv => whnf) | ((with_reducible refine callS_a ?_); conv => whnf) | ((with_reducible refine own_e ?_); conv => whnf)))
    exact ret_p rfl (bool_eq (by simp [insideB]; omega))
theorem isTotal_ok (x : Int) : Good Try.prog TT false 61 [.int .i64 x] (· = .bool (totB x)) := by
  refine good_of mixed tabOk Try.func61 rfl rfl Try.ntmps61 Try.results61 rfl rfl ?_
  (conv => whnf); (repeat (first | (refine arith_i ⟨by omega, by omega⟩ ?_; conv => whnf) | (refine need_i (by first | omega | (simp only [List.length_append, List.length_cons, List.length_nil]; omega)) ?_; conv => whnf) | ((with_reducible refine branch_tt ?_); conv => whnf) | ((with_reducible refine branch_ff ?_); conv => whnf) | (with_reducible refine branch_not ?_) | ((with_reducible refine slc_e ?_); conv => whnf) | ((with_reducible refine callS_a ?_); conv => whnf) | ((with_reducible refine own_e ?_); conv => whnf)))
  refine branch_d (fun h => ?_) (fun h => ?_)
  · (conv => whnf); (repeat (first | (refine arith_i ⟨by omega, by omega⟩ ?_; conv => whnf) | (refine need_i (by first | omega | (simp only [List.length_append, List.length_cons, List.length_nil]; omega)) ?_; conv => whnf) | ((with_reducible refine branch_tt ?_); conv => whnf) | ((with_reducible refine branch_ff ?_); conv => whnf) | (with_reducible refine branch_not ?_) | ((with_reducible refine slc_e ?_); conv => whnf) | ((with_reducible refine callS_a ?_); conv => whnf) | ((with_reducible refine own_e ?_); conv => whnf)))
    exact ret_p rfl (bool_eq (by simp [totB]; omega))
  · (conv => whnf); (repeat (first | (refine arith_i ⟨by omega, by omega⟩ ?_; conv => whnf) | (refine need_i (by first | omega | (simp only [List.length_append, List.length_cons, List.length_nil]; omega)) ?_; conv => whnf) | ((with_reducible refine branch_tt ?_); conv => whnf) | ((with_reducible refine branch_ff ?_); conv => whnf) | (with_reducible refine branch_not ?_) | ((with_reducible refine slc_e ?_); conv => whnf) | ((with_reducible refine callS_a ?_); conv => whnf) | ((with_reducible refine own_e ?_); conv => whnf)))
    exact ret_p rfl (bool_eq (by simp [totB]; omega))
theorem same_ok (x r : Rng) : Good Try.prog TT false 90 [.agg (encRng x), .ref (encRng r)] (· = .bool (x.index == r.index)) := by
  refine good_of mixed tabOk Try.func90 rfl rfl Try.ntmps90 Try.results90 rfl rfl ?_
  (conv => whnf); (repeat (first | (refine arith_i ⟨by omega, by omega⟩ ?_; conv => whnf) | (refine need_i (by first | omega | (simp only [List.length_append, List.length_cons, List.length_nil]; omega)) ?_; conv => whnf) | ((with_reducible refine branch_tt ?_); conv => whnf) | ((with_reducible refine branch_ff ?_); conv => whnf) | (with_reducible refine branch_not ?_) | ((with_reducible refine slc_e ?_); conv => whnf) | ((with_reducible refine callS_a ?_); conv => whnf) | ((with_reducible refine own_e ?_); conv => whnf)))
  exact ret_p rfl rfl
def sameV (r : Rng) : AV := .fn 90 [.ref (encRng r)]
def idxOf (l : List Rng) (r : Rng) : Int := match l.findIdx? (·.index == r.index) with | some i => i | none => -1
theorem indexFunc_ok (l : List Rng) (r : Rng) (hl : l.length ≤ 1000000) : Good Try.prog TT false 101 [rngsV l, sameV r] (· = .int .i64 (idxOf l r)) := by
  have L : (l.map encRng).length = l.length := List.length_map ..
  refine good_of mixed tabOk Try.func101 rfl rfl Try.ntmps101 Try.results101 rfl rfl ?_
  (conv => whnf); (repeat (first | (refine arith_i ⟨by omega, by omega⟩ ?_; conv => whnf) | (refine need_i (by first | omega | (simp only [List.length_append, List.length_cons, List.length_nil]; omega)) ?_; conv => whnf) | ((with_reducible refine branch_tt ?_); conv => whnf) | ((with_reducible refine branch_ff ?_); conv => whnf) | (with_reducible refine branch_not ?_) | ((with_reducible refine slc_e ?_); conv => whnf) | ((with_reducible refine callS_a ?_); conv => whnf) | ((with_reducible refine own_e ?_); conv => whnf)))
  refine loop_i (fun k : Nat => k ≤ l.length ∧ ∀ i x, i < k → l[i]? = some x → (x.index == r.index) = false) (fun k => mkSt [(0, rngsV l), (1, sameV r), (7, .int .i64 (l.map encRng).length), (8, .int .i64 k)] [] false) (fun k => l.length - k) 0 ⟨Nat.zero_le _, nofun⟩ (le_mk ⟨rfl, rfl, rfl, rfl, trivial⟩ trivial rfl) ?_
  rintro k ⟨hk, hall⟩
  (conv => whnf); (repeat (first | (refine arith_i ⟨by omega, by omega⟩ ?_; conv => whnf) | (refine need_i (by first | omega | (simp only [List.length_append, List.length_cons, List.length_nil]; omega)) ?_; conv => whnf) | ((with_reducible refine branch_tt ?_); conv => whnf) | ((with_reducible refine branch_ff ?_); conv => whnf) | (with_reducible refine branch_not ?_) | ((with_reducible refine slc_e ?_); conv => whnf) | ((with_reducible refine callS_a ?_); conv => whnf) | ((with_reducible refine own_e ?_); conv => whnf)))
  refine branch_d (fun h => ?_) (fun h => ?_)
  · (conv => whnf); (repeat (first | (refine arith_i ⟨by omega, by omega⟩ ?_; conv => whnf) | (refine need_i (by first | omega | (simp only [List.length_append, List.length_cons, List.length_nil]; omega)) ?_; conv => whnf) | ((with_reducible refine branch_tt ?_); conv => whnf) | ((with_reducible refine branch_ff ?_); conv => whnf) | (with_reducible refine branch_not ?_) | ((with_reducible refine slc_e ?_); conv => whnf) | ((with_reducible refine callS_a ?_); conv => whnf) | ((with_reducible refine own_e ?_); conv => whnf)))
    refine idx_m (by omega) (by omega) fun x hx => ?_
    rw [Int.toNat_natCast] at hx
    (conv => whnf); (repeat (first | (refine arith_i ⟨by omega, by omega⟩ ?_; conv => whnf) | (refine need_i (by first | omega | (simp only [List.length_append, List.length_cons, List.length_nil]; omega)) ?_; conv => whnf) | ((with_reducible refine branch_tt ?_); conv => whnf) | ((with_reducible refine branch_ff ?_); conv => whnf) | (with_reducible refine branch_not ?_) | ((with_reducible refine slc_e ?_); conv => whnf) | ((with_reducible refine callS_a ?_); conv => whnf) | ((with_reducible refine own_e ?_); conv => whnf)))
    refine call_e (same_ok x r) ?_
    (conv => whnf); (repeat (first | (refine arith_i ⟨by omega, by omega⟩ ?_; conv => whnf) | (refine need_i (by first | omega | (simp only [List.length_append, List.length_cons, List.length_nil]; omega)) ?_; conv => whnf) | ((with_reducible refine branch_tt ?_); conv => whnf) | ((with_reducible refine branch_ff ?_); conv => whnf) | (with_reducible refine branch_not ?_) | ((with_reducible refine slc_e ?_); conv => whnf) | ((with_reducible refine callS_a ?_); conv => whnf) | ((with_reducible refine own_e ?_); conv => whnf)))
    cases he : x.index == r.index with
    | true =>
      (conv => whnf); (repeat (first | (refine arith_i ⟨by omega, by omega⟩ ?_; conv => whnf) | (refine need_i (by first | omega | (simp only [List.length_append, List.length_cons, List.length_nil]; omega)) ?_; conv => whnf) | ((with_reducible refine branch_tt ?_); conv => whnf) | ((with_reducible refine branch_ff ?_); conv => whnf) | (with_reducible refine branch_not ?_) | ((with_reducible refine slc_e ?_); conv => whnf) | ((with_reducible refine callS_a ?_); conv => whnf) | ((with_reducible refine own_e ?_); conv => whnf)))
      refine ret_p rfl (int_eq ?_)
      have : l.findIdx? (·.index == r.index) = some k := by
        rw [List.findIdx?_eq_some_iff_getElem]
        obtain ⟨h1, h2⟩ := List.getElem?_eq_some_iff.1 hx
        exact ⟨h1, by rw [h2]; exact he, fun j hj => by rw [hall j _ hj (List.getElem?_eq_getElem (by omega))]; simp⟩
      rw [idxOf, this]
    | false =>
      (conv => whnf); (repeat (first | (refine arith_i ⟨by omega, by omega⟩ ?_; conv => whnf) | (refine need_i (by first | omega | (simp only [List.length_append, List.length_cons, List.length_nil]; omega)) ?_; conv => whnf) | ((with_reducible refine branch_tt ?_); conv => whnf) | ((with_reducible refine branch_ff ?_); conv => whnf) | (with_reducible refine branch_not ?_) | ((with_reducible refine slc_e ?_); conv => whnf) | ((with_reducible refine callS_a ?_); conv => whnf) | ((with_reducible refine own_e ?_); conv => whnf)))
      refine ⟨k + 1, ⟨by omega, fun i y hi hy => ?_⟩, le_mk ⟨rfl, rfl, rfl, rfl, trivial⟩ trivial rfl, by omega⟩
      rcases Nat.lt_or_ge i k with h' | h'
      · exact hall i y h' hy
      · obtain rfl : i = k := by omega
        rw [hx] at hy; injection hy with hy; subst hy; exact he
  · (conv => whnf); (repeat (first | (refine arith_i ⟨by omega, by omega⟩ ?_; conv => whnf) | (refine need_i (by first | omega | (simp only [List.length_append, List.length_cons, List.length_nil]; omega)) ?_; conv => whnf) | ((with_reducible refine branch_tt ?_); conv => whnf) | ((with_reducible refine branch_ff ?_); conv => whnf) | (with_reducible refine branch_not ?_) | ((with_reducible refine slc_e ?_); conv => whnf) | ((with_reducible refine callS_a ?_); conv => whnf) | ((with_reducible refine own_e ?_); conv => whnf)))
    refine ret_p rfl (int_eq ?_)
    have : l.findIdx? (·.index == r.index) = none := by
      rw [List.findIdx?_eq_none_iff]
      intro x hx
      obtain ⟨i, hi, e⟩ := List.mem_iff_getElem.1 hx
      exact hall i x (by omega) (by rw [← e]; exact List.getElem?_eq_getElem hi)
    rw [idxOf, this]
theorem idx_any (l : List Rng) (r : Rng) : decide (idxOf l r ≥ 0) = l.any (·.index == r.index) := by
  unfold idxOf
  split
  · next i h =>
    obtain ⟨h1, h2, -⟩ := List.findIdx?_eq_some_iff_getElem.1 h
    rw [List.any_eq_true.2 ⟨_, List.getElem_mem h1, h2⟩]
    simp
  · next h =>
    rw [List.findIdx?_eq_none_iff] at h
    rw [List.any_eq_false.2 (fun x hx => by rw [h x hx]; simp)]
    rfl
theorem containsFunc_ok (l : List Rng) (r : Rng) (hl : l.length ≤ 1000000) : Good Try.prog TT false 89 [rngsV l, sameV r] (· = .bool (l.any (·.index == r.index))) := by
  refine good_of mixed tabOk Try.func89 rfl rfl Try.ntmps89 Try.results89 rfl rfl ?_
  (conv => whnf); (repeat (first | (refine arith_i ⟨by omega, by omega⟩ ?_; conv => whnf) | (refine need_i (by first | omega | (simp only [List.length_append, List.length_cons, List.length_nil]; omega)) ?_; conv => whnf) | ((with_reducible refine branch_tt ?_); conv => whnf) | ((with_reducible refine branch_ff ?_); conv => whnf) | (with_reducible refine branch_not ?_) | ((with_reducible refine slc_e ?_); conv => whnf) | ((with_reducible refine callS_a ?_); conv => whnf) | ((with_reducible refine own_e ?_); conv => whnf)))
  refine call_e (indexFunc_ok l r hl) ?_
  (conv => whnf); (repeat (first | (refine arith_i ⟨by omega, by omega⟩ ?_; conv => whnf) | (refine need_i (by first | omega | (simp only [List.length_append, List.length_cons, List.length_nil]; omega)) ?_; conv => whnf) | ((with_reducible refine branch_tt ?_); conv => whnf) | ((with_reducible refine branch_ff ?_); conv => whnf) | (with_reducible refine branch_not ?_) | ((with_reducible refine slc_e ?_); conv => whnf) | ((with_reducible refine callS_a ?_); conv => whnf) | ((with_reducible refine own_e ?_); conv => whnf)))
  exact ret_p rfl (bool_eq (idx_any l r))
end Go.Proofs.Ytjgaacjfoaohnaa
