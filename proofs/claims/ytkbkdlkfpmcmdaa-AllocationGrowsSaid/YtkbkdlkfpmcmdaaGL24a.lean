/- Layer 24 by the interpreter: markers and scripts, who may mark what. -/
import Derived.Test.YtkbkdlkfpmcmdaaGTapeM
namespace Go.Proofs.Ytkbkdlkfpmcmdaa
set_option linter.unusedVariables false
set_option linter.unusedSimpArgs false
set_option linter.unnecessarySimpa false
set_option linter.unusedSectionVars false
set_option maxRecDepth 10000
open Go.RowKit

theorem bool_eq {a b : Bool} (h : a = b) : AV.bool a = .bool b := by rw [h]
theorem int_eq {a b : Int} (h : a = b) : AV.int .i64 a = .int .i64 b := by rw [h]
structure Mrk where
  id : Int
  centre : Int
  level : Int
  cap : Int
  papers : List Int
structure Scr where
  number : Int
  paper : Int
  cand : Int
  centre : Int
  variant : Int
  pages : List Int
  answers : List Int
def encM (m : Mrk) : List AV := [.int .i64 m.id, .int .i64 m.centre, .int .i64 m.level, .int .i64 m.cap, ints m.papers]
def encR (s : Scr) : List AV := [.int .i64 s.number, .int .i64 s.paper, .int .i64 s.cand, .int .i64 s.centre, .int .i64 s.variant, ints s.pages, ints s.answers]
def mrksV (l : List Mrk) : AV := .lst 5 (l.map encM)
def scrsV (l : List Scr) : AV := .lst 7 (l.map encR)
def hasP (l : List Int) (p : Int) : Bool := l.any fun x => p == x
def mayB (m : Mrk) (s : Scr) : Bool := (m.centre != s.centre) && hasP m.papers s.paper
def idxP (l : List Int) (p : Int) : Int := match l.findIdx? (fun x => p == x) with | some i => i | none => -1
theorem index_ok (l : List Int) (p : Int) (hl : l.length ≤ 1000000) : Good Try.prog TT false 105 [ints l, .int .i64 p] (· = .int .i64 (idxP l p)) := by
  have L : (l.map encI).length = l.length := List.length_map ..
  refine good_of mixed tabOk Try.func105 rfl rfl Try.ntmps105 Try.results105 rfl rfl ?_
  (conv => whnf); (repeat (first | (refine arith_i ⟨by omega, by omega⟩ ?_; conv => whnf) | (refine need_i (by first | omega | (simp only [List.length_append, List.length_cons, List.length_nil]; omega)) ?_; conv => whnf) | ((with_reducible refine branch_tt ?_); conv => whnf) | ((with_reducible refine branch_ff ?_); conv => whnf) | (with_reducible refine branch_not ?_) | ((with_reducible refine slc_e ?_); conv => whnf) | ((with_reducible refine callS_a ?_); conv => whnf) | ((with_reducible refine bld_a ?_); conv => whnf) | ((with_reducible refine own_e ?_); conv => whnf) | ((with_reducible refine mkmap_b ?_); conv => whnf)))
  refine loop_i (fun k : Nat => k ≤ l.length ∧ ∀ i x, i < k → l[i]? = some x → (p == x) = false) (fun k => mkSt [(0, ints l), (1, .int .i64 p), (7, .int .i64 (l.map encI).length), (8, .int .i64 k)] [] false) (fun k => l.length - k) 0 ⟨Nat.zero_le _, nofun⟩ (le_mk ⟨rfl, rfl, rfl, rfl, trivial⟩ trivial rfl) ?_
  rintro k ⟨hk, hall⟩
  (conv => whnf); (repeat (first | (refine arith_i ⟨by omega, by omega⟩ ?_; conv => whnf) | (refine need_i (by first | omega | (simp only [List.length_append, List.length_cons, List.length_nil]; omega)) ?_; conv => whnf) | ((with_reducible refine branch_tt ?_); conv => whnf) | ((with_reducible refine branch_ff ?_); conv => whnf) | (with_reducible refine branch_not ?_) | ((with_reducible refine slc_e ?_); conv => whnf) | ((with_reducible refine callS_a ?_); conv => whnf) | ((with_reducible refine bld_a ?_); conv => whnf) | ((with_reducible refine own_e ?_); conv => whnf) | ((with_reducible refine mkmap_b ?_); conv => whnf)))
  refine branch_d (fun h => ?_) (fun h => ?_)
  · (conv => whnf); (repeat (first | (refine arith_i ⟨by omega, by omega⟩ ?_; conv => whnf) | (refine need_i (by first | omega | (simp only [List.length_append, List.length_cons, List.length_nil]; omega)) ?_; conv => whnf) | ((with_reducible refine branch_tt ?_); conv => whnf) | ((with_reducible refine branch_ff ?_); conv => whnf) | (with_reducible refine branch_not ?_) | ((with_reducible refine slc_e ?_); conv => whnf) | ((with_reducible refine callS_a ?_); conv => whnf) | ((with_reducible refine bld_a ?_); conv => whnf) | ((with_reducible refine own_e ?_); conv => whnf) | ((with_reducible refine mkmap_b ?_); conv => whnf)))
    refine idx_m (by omega) (by omega) fun x hx => ?_
    rw [Int.toNat_natCast] at hx
    (conv => whnf); (repeat (first | (refine arith_i ⟨by omega, by omega⟩ ?_; conv => whnf) | (refine need_i (by first | omega | (simp only [List.length_append, List.length_cons, List.length_nil]; omega)) ?_; conv => whnf) | ((with_reducible refine branch_tt ?_); conv => whnf) | ((with_reducible refine branch_ff ?_); conv => whnf) | (with_reducible refine branch_not ?_) | ((with_reducible refine slc_e ?_); conv => whnf) | ((with_reducible refine callS_a ?_); conv => whnf) | ((with_reducible refine bld_a ?_); conv => whnf) | ((with_reducible refine own_e ?_); conv => whnf) | ((with_reducible refine mkmap_b ?_); conv => whnf)))
    refine branch_i (fun he => ?_) (fun he => ?_)
    · (conv => whnf); (repeat (first | (refine arith_i ⟨by omega, by omega⟩ ?_; conv => whnf) | (refine need_i (by first | omega | (simp only [List.length_append, List.length_cons, List.length_nil]; omega)) ?_; conv => whnf) | ((with_reducible refine branch_tt ?_); conv => whnf) | ((with_reducible refine branch_ff ?_); conv => whnf) | (with_reducible refine branch_not ?_) | ((with_reducible refine slc_e ?_); conv => whnf) | ((with_reducible refine callS_a ?_); conv => whnf) | ((with_reducible refine bld_a ?_); conv => whnf) | ((with_reducible refine own_e ?_); conv => whnf) | ((with_reducible refine mkmap_b ?_); conv => whnf)))
      refine ret_p rfl (int_eq ?_)
      have : l.findIdx? (fun x => p == x) = some k := by
        rw [List.findIdx?_eq_some_iff_getElem]
        obtain ⟨h1, h2⟩ := List.getElem?_eq_some_iff.1 hx
        exact ⟨h1, by rw [h2]; exact he, fun j hj => by rw [hall j _ hj (List.getElem?_eq_getElem (by omega))]; simp⟩
      rw [idxP, this]
    · (conv => whnf); (repeat (first | (refine arith_i ⟨by omega, by omega⟩ ?_; conv => whnf) | (refine need_i (by first | omega | (simp only [List.length_append, List.length_cons, List.length_nil]; omega)) ?_; conv => whnf) | ((with_reducible refine branch_tt ?_); conv => whnf) | ((with_reducible refine branch_ff ?_); conv => whnf) | (with_reducible refine branch_not ?_) | ((with_reducible refine slc_e ?_); conv => whnf) | ((with_reducible refine callS_a ?_); conv => whnf) | ((with_reducible refine bld_a ?_); conv => whnf) | ((with_reducible refine own_e ?_); conv => whnf) | ((with_reducible refine mkmap_b ?_); conv => whnf)))
      refine ⟨k + 1, ⟨by omega, fun i y hi hy => ?_⟩, le_mk ⟨rfl, rfl, rfl, rfl, trivial⟩ trivial rfl, by omega⟩
      rcases Nat.lt_or_ge i k with h' | h'
      · exact hall i y h' hy
      · obtain rfl : i = k := by omega
        rw [hx] at hy; injection hy with hy; subst hy; exact he
  · (conv => whnf); (repeat (first | (refine arith_i ⟨by omega, by omega⟩ ?_; conv => whnf) | (refine need_i (by first | omega | (simp only [List.length_append, List.length_cons, List.length_nil]; omega)) ?_; conv => whnf) | ((with_reducible refine branch_tt ?_); conv => whnf) | ((with_reducible refine branch_ff ?_); conv => whnf) | (with_reducible refine branch_not ?_) | ((with_reducible refine slc_e ?_); conv => whnf) | ((with_reducible refine callS_a ?_); conv => whnf) | ((with_reducible refine bld_a ?_); conv => whnf) | ((with_reducible refine own_e ?_); conv => whnf) | ((with_reducible refine mkmap_b ?_); conv => whnf)))
    refine ret_p rfl (int_eq ?_)
    have : l.findIdx? (fun x => p == x) = none := by
      rw [List.findIdx?_eq_none_iff]
      intro x hx
      obtain ⟨i, hi, e⟩ := List.mem_iff_getElem.1 hx
      exact hall i x (by omega) (by rw [← e]; exact List.getElem?_eq_getElem hi)
    rw [idxP, this]
theorem idxP_any (l : List Int) (p : Int) : decide (idxP l p ≥ 0) = hasP l p := by
  unfold idxP hasP
  split
  · next i h =>
    obtain ⟨h1, h2, -⟩ := List.findIdx?_eq_some_iff_getElem.1 h
    rw [List.any_eq_true.2 ⟨_, List.getElem_mem h1, h2⟩]
    simp
  · next h =>
    rw [List.findIdx?_eq_none_iff] at h
    rw [List.any_eq_false.2 (fun x hx => by rw [h x hx]; simp)]
    rfl
theorem contains_ok (l : List Int) (p : Int) (hl : l.length ≤ 1000000) : Good Try.prog TT false 80 [ints l, .int .i64 p] (· = .bool (hasP l p)) := by
  refine good_of mixed tabOk Try.func80 rfl rfl Try.ntmps80 Try.results80 rfl rfl ?_
  (conv => whnf); (repeat (first | (refine arith_i ⟨by omega, by omega⟩ ?_; conv => whnf) | (refine need_i (by first | omega | (simp only [List.length_append, List.length_cons, List.length_nil]; omega)) ?_; conv => whnf) | ((with_reducible refine branch_tt ?_); conv => whnf) | ((with_reducible refine branch_ff ?_); conv => whnf) | (with_reducible refine branch_not ?_) | ((with_reducible refine slc_e ?_); conv => whnf) | ((with_reducible refine callS_a ?_); conv => whnf) | ((with_reducible refine bld_a ?_); conv => whnf) | ((with_reducible refine own_e ?_); conv => whnf) | ((with_reducible refine mkmap_b ?_); conv => whnf)))
  refine call_e (index_ok l p hl) ?_
  (conv => whnf); (repeat (first | (refine arith_i ⟨by omega, by omega⟩ ?_; conv => whnf) | (refine need_i (by first | omega | (simp only [List.length_append, List.length_cons, List.length_nil]; omega)) ?_; conv => whnf) | ((with_reducible refine branch_tt ?_); conv => whnf) | ((with_reducible refine branch_ff ?_); conv => whnf) | (with_reducible refine branch_not ?_) | ((with_reducible refine slc_e ?_); conv => whnf) | ((with_reducible refine callS_a ?_); conv => whnf) | ((with_reducible refine bld_a ?_); conv => whnf) | ((with_reducible refine own_e ?_); conv => whnf) | ((with_reducible refine mkmap_b ?_); conv => whnf)))
  exact ret_p rfl (bool_eq (idxP_any l p))
theorem clone_ok (xs : List Int) (hl : xs.length ≤ 1000000) : Good Try.prog TT false 78 [ints xs] (· = .own 0 3 1 (xs.map encI)) := by
  have L : (xs.map encI).length = xs.length := List.length_map ..
  refine good_of mixed tabOk Try.func78 rfl rfl Try.ntmps78 Try.results78 rfl rfl ?_
  (conv => whnf); (repeat (first | (refine arith_i ⟨by omega, by omega⟩ ?_; conv => whnf) | (refine need_i (by first | omega | (simp only [List.length_append, List.length_cons, List.length_nil]; omega)) ?_; conv => whnf) | ((with_reducible refine branch_tt ?_); conv => whnf) | ((with_reducible refine branch_ff ?_); conv => whnf) | (with_reducible refine branch_not ?_) | ((with_reducible refine slc_e ?_); conv => whnf) | ((with_reducible refine callS_a ?_); conv => whnf) | ((with_reducible refine bld_a ?_); conv => whnf) | ((with_reducible refine own_e ?_); conv => whnf) | ((with_reducible refine mkmap_b ?_); conv => whnf)))
  refine nil_i (fun h => ?_) ?_
  · (conv => whnf); (repeat (first | (refine arith_i ⟨by omega, by omega⟩ ?_; conv => whnf) | (refine need_i (by first | omega | (simp only [List.length_append, List.length_cons, List.length_nil]; omega)) ?_; conv => whnf) | ((with_reducible refine branch_tt ?_); conv => whnf) | ((with_reducible refine branch_ff ?_); conv => whnf) | (with_reducible refine branch_not ?_) | ((with_reducible refine slc_e ?_); conv => whnf) | ((with_reducible refine callS_a ?_); conv => whnf) | ((with_reducible refine bld_a ?_); conv => whnf) | ((with_reducible refine own_e ?_); conv => whnf) | ((with_reducible refine mkmap_b ?_); conv => whnf)))
    exact ret_n (e := 3) (z := 1) (by rw [h])
  · (conv => whnf); (repeat (first | (refine arith_i ⟨by omega, by omega⟩ ?_; conv => whnf) | (refine need_i (by first | omega | (simp only [List.length_append, List.length_cons, List.length_nil]; omega)) ?_; conv => whnf) | ((with_reducible refine branch_tt ?_); conv => whnf) | ((with_reducible refine branch_ff ?_); conv => whnf) | (with_reducible refine branch_not ?_) | ((with_reducible refine slc_e ?_); conv => whnf) | ((with_reducible refine callS_a ?_); conv => whnf) | ((with_reducible refine bld_a ?_); conv => whnf) | ((with_reducible refine own_e ?_); conv => whnf) | ((with_reducible refine mkmap_b ?_); conv => whnf)))
    exact ret_o rfl
def ShortM (m : Mrk) : Prop := m.papers.length ≤ 1000
theorem mayMark_ok (m : Mrk) (s : Scr) (hm : ShortM m) : Good Try.prog TT false 93 [.agg (encM m), .agg (encR s)] (· = .bool (mayB m s)) := by
  refine good_of mixed tabOk Try.func93 rfl rfl Try.ntmps93 Try.results93 rfl rfl ?_
  (conv => whnf); (repeat (first | (refine arith_i ⟨by omega, by omega⟩ ?_; conv => whnf) | (refine need_i (by first | omega | (simp only [List.length_append, List.length_cons, List.length_nil]; omega)) ?_; conv => whnf) | ((with_reducible refine branch_tt ?_); conv => whnf) | ((with_reducible refine branch_ff ?_); conv => whnf) | (with_reducible refine branch_not ?_) | ((with_reducible refine slc_e ?_); conv => whnf) | ((with_reducible refine callS_a ?_); conv => whnf) | ((with_reducible refine bld_a ?_); conv => whnf) | ((with_reducible refine own_e ?_); conv => whnf) | ((with_reducible refine mkmap_b ?_); conv => whnf)))
  refine branch_n (fun h => ?_) (fun h => ?_)
  · (conv => whnf); (repeat (first | (refine arith_i ⟨by omega, by omega⟩ ?_; conv => whnf) | (refine need_i (by first | omega | (simp only [List.length_append, List.length_cons, List.length_nil]; omega)) ?_; conv => whnf) | ((with_reducible refine branch_tt ?_); conv => whnf) | ((with_reducible refine branch_ff ?_); conv => whnf) | (with_reducible refine branch_not ?_) | ((with_reducible refine slc_e ?_); conv => whnf) | ((with_reducible refine callS_a ?_); conv => whnf) | ((with_reducible refine bld_a ?_); conv => whnf) | ((with_reducible refine own_e ?_); conv => whnf) | ((with_reducible refine mkmap_b ?_); conv => whnf)))
    refine call_e (contains_ok m.papers s.paper (by unfold ShortM at hm; omega)) ?_
    (conv => whnf); (repeat (first | (refine arith_i ⟨by omega, by omega⟩ ?_; conv => whnf) | (refine need_i (by first | omega | (simp only [List.length_append, List.length_cons, List.length_nil]; omega)) ?_; conv => whnf) | ((with_reducible refine branch_tt ?_); conv => whnf) | ((with_reducible refine branch_ff ?_); conv => whnf) | (with_reducible refine branch_not ?_) | ((with_reducible refine slc_e ?_); conv => whnf) | ((with_reducible refine callS_a ?_); conv => whnf) | ((with_reducible refine bld_a ?_); conv => whnf) | ((with_reducible refine own_e ?_); conv => whnf) | ((with_reducible refine mkmap_b ?_); conv => whnf)))
    exact ret_p rfl (bool_eq (by simp [mayB, h]))
  · (conv => whnf); (repeat (first | (refine arith_i ⟨by omega, by omega⟩ ?_; conv => whnf) | (refine need_i (by first | omega | (simp only [List.length_append, List.length_cons, List.length_nil]; omega)) ?_; conv => whnf) | ((with_reducible refine branch_tt ?_); conv => whnf) | ((with_reducible refine branch_ff ?_); conv => whnf) | (with_reducible refine branch_not ?_) | ((with_reducible refine slc_e ?_); conv => whnf) | ((with_reducible refine callS_a ?_); conv => whnf) | ((with_reducible refine bld_a ?_); conv => whnf) | ((with_reducible refine own_e ?_); conv => whnf) | ((with_reducible refine mkmap_b ?_); conv => whnf)))
    exact ret_p rfl (bool_eq (by simp [mayB, h]))
def findM (l : List Mrk) (id : Int) : Option Mrk := l.find? (·.id == id)
def foundV (o : Option Mrk) : AV := match o with | some m => .tup [.agg (encM m), .bool true] | none => .tup [.agg (encM ⟨0, 0, 0, 0, []⟩), .bool false]
def ShortL (l : List Mrk) : Prop := l.length ≤ 1000 ∧ ∀ (k : Nat) (m : Mrk), l[k]? = some m → ShortM m
theorem find_ok (l : List Mrk) (id : Int) (hl : ShortL l) : Good Try.prog TT false 92 [mrksV l, .int .i64 id] (· = foundV (findM l id)) := by
  have L : (l.map encM).length = l.length := List.length_map ..
  obtain ⟨hl1, hl2⟩ := hl
  refine good_of mixed tabOk Try.func92 rfl rfl Try.ntmps92 Try.results92 rfl rfl ?_
  (conv => whnf); (repeat (first | (refine arith_i ⟨by omega, by omega⟩ ?_; conv => whnf) | (refine need_i (by first | omega | (simp only [List.length_append, List.length_cons, List.length_nil]; omega)) ?_; conv => whnf) | ((with_reducible refine branch_tt ?_); conv => whnf) | ((with_reducible refine branch_ff ?_); conv => whnf) | (with_reducible refine branch_not ?_) | ((with_reducible refine slc_e ?_); conv => whnf) | ((with_reducible refine callS_a ?_); conv => whnf) | ((with_reducible refine bld_a ?_); conv => whnf) | ((with_reducible refine own_e ?_); conv => whnf) | ((with_reducible refine mkmap_b ?_); conv => whnf)))
  refine loop_i (fun k : Nat => k ≤ l.length ∧ ∀ i x, i < k → l[i]? = some x → (x.id == id) = false) (fun k => mkSt [(1, .int .i64 id), (4, .ptr 4 0), (8, mrksV l), (9, .int .i64 (l.map encM).length), (10, .int .i64 k)] [(4, [.int .i64 0, .int .i64 0, .int .i64 0, .int .i64 0, .nil])] false) (fun k => l.length - k) 0 ⟨Nat.zero_le _, nofun⟩ (le_mk ⟨rfl, rfl, rfl, rfl, rfl, trivial⟩ ⟨rfl, trivial⟩ rfl) ?_
  rintro k ⟨hk, hall⟩
  (conv => whnf); (repeat (first | (refine arith_i ⟨by omega, by omega⟩ ?_; conv => whnf) | (refine need_i (by first | omega | (simp only [List.length_append, List.length_cons, List.length_nil]; omega)) ?_; conv => whnf) | ((with_reducible refine branch_tt ?_); conv => whnf) | ((with_reducible refine branch_ff ?_); conv => whnf) | (with_reducible refine branch_not ?_) | ((with_reducible refine slc_e ?_); conv => whnf) | ((with_reducible refine callS_a ?_); conv => whnf) | ((with_reducible refine bld_a ?_); conv => whnf) | ((with_reducible refine own_e ?_); conv => whnf) | ((with_reducible refine mkmap_b ?_); conv => whnf)))
  refine branch_d (fun h => ?_) (fun h => ?_)
  · (conv => whnf); (repeat (first | (refine arith_i ⟨by omega, by omega⟩ ?_; conv => whnf) | (refine need_i (by first | omega | (simp only [List.length_append, List.length_cons, List.length_nil]; omega)) ?_; conv => whnf) | ((with_reducible refine branch_tt ?_); conv => whnf) | ((with_reducible refine branch_ff ?_); conv => whnf) | (with_reducible refine branch_not ?_) | ((with_reducible refine slc_e ?_); conv => whnf) | ((with_reducible refine callS_a ?_); conv => whnf) | ((with_reducible refine bld_a ?_); conv => whnf) | ((with_reducible refine own_e ?_); conv => whnf) | ((with_reducible refine mkmap_b ?_); conv => whnf)))
    refine idx_m (by omega) (by omega) fun m hm => ?_
    rw [Int.toNat_natCast] at hm
    (conv => whnf); (repeat (first | (refine arith_i ⟨by omega, by omega⟩ ?_; conv => whnf) | (refine need_i (by first | omega | (simp only [List.length_append, List.length_cons, List.length_nil]; omega)) ?_; conv => whnf) | ((with_reducible refine branch_tt ?_); conv => whnf) | ((with_reducible refine branch_ff ?_); conv => whnf) | (with_reducible refine branch_not ?_) | ((with_reducible refine slc_e ?_); conv => whnf) | ((with_reducible refine callS_a ?_); conv => whnf) | ((with_reducible refine bld_a ?_); conv => whnf) | ((with_reducible refine own_e ?_); conv => whnf) | ((with_reducible refine mkmap_b ?_); conv => whnf)))
    refine branch_e (fun he => ?_) (fun he => ?_)
    · (conv => whnf); (repeat (first | (refine arith_i ⟨by omega, by omega⟩ ?_; conv => whnf) | (refine need_i (by first | omega | (simp only [List.length_append, List.length_cons, List.length_nil]; omega)) ?_; conv => whnf) | ((with_reducible refine branch_tt ?_); conv => whnf) | ((with_reducible refine branch_ff ?_); conv => whnf) | (with_reducible refine branch_not ?_) | ((with_reducible refine slc_e ?_); conv => whnf) | ((with_reducible refine callS_a ?_); conv => whnf) | ((with_reducible refine bld_a ?_); conv => whnf) | ((with_reducible refine own_e ?_); conv => whnf) | ((with_reducible refine mkmap_b ?_); conv => whnf)))
      refine call_e (clone_ok m.papers (by have := hl2 k m hm; unfold ShortM at this; omega)) ?_
      (conv => whnf); (repeat (first | (refine arith_i ⟨by omega, by omega⟩ ?_; conv => whnf) | (refine need_i (by first | omega | (simp only [List.length_append, List.length_cons, List.length_nil]; omega)) ?_; conv => whnf) | ((with_reducible refine branch_tt ?_); conv => whnf) | ((with_reducible refine branch_ff ?_); conv => whnf) | (with_reducible refine branch_not ?_) | ((with_reducible refine slc_e ?_); conv => whnf) | ((with_reducible refine callS_a ?_); conv => whnf) | ((with_reducible refine bld_a ?_); conv => whnf) | ((with_reducible refine own_e ?_); conv => whnf) | ((with_reducible refine mkmap_b ?_); conv => whnf)))
      have e : findM l id = some m := by
        unfold findM
        rw [List.find?_eq_some_iff_getElem]
        obtain ⟨h1, h2⟩ := List.getElem?_eq_some_iff.1 hm
        exact ⟨by simp [he], k, h1, h2, fun j hj => by rw [hall j _ hj (List.getElem?_eq_getElem (by omega))]; rfl⟩
      exact ret_t (rs := [.agg (encM m), .bool true]) ⟨.inr ⟨_, _, rfl, rfl, rc_p rfl, rc_p rfl, rc_p rfl, rc_p rfl, rc_o, trivial⟩, (rc_p rfl).g, trivial⟩ (by rw [e]; rfl)
    · (conv => whnf); (repeat (first | (refine arith_i ⟨by omega, by omega⟩ ?_; conv => whnf) | (refine need_i (by first | omega | (simp only [List.length_append, List.length_cons, List.length_nil]; omega)) ?_; conv => whnf) | ((with_reducible refine branch_tt ?_); conv => whnf) | ((with_reducible refine branch_ff ?_); conv => whnf) | (with_reducible refine branch_not ?_) | ((with_reducible refine slc_e ?_); conv => whnf) | ((with_reducible refine callS_a ?_); conv => whnf) | ((with_reducible refine bld_a ?_); conv => whnf) | ((with_reducible refine own_e ?_); conv => whnf) | ((with_reducible refine mkmap_b ?_); conv => whnf)))
      refine ⟨k + 1, ⟨by omega, fun i y hi hy => ?_⟩, le_mk ⟨rfl, rfl, rfl, rfl, rfl, trivial⟩ ⟨rfl, trivial⟩ rfl, by omega⟩
      rcases Nat.lt_or_ge i k with h' | h'
      · exact hall i y h' hy
      · obtain rfl : i = k := by omega
        rw [hm] at hy; injection hy with hy; subst hy; simpa using he
  · (conv => whnf); (repeat (first | (refine arith_i ⟨by omega, by omega⟩ ?_; conv => whnf) | (refine need_i (by first | omega | (simp only [List.length_append, List.length_cons, List.length_nil]; omega)) ?_; conv => whnf) | ((with_reducible refine branch_tt ?_); conv => whnf) | ((with_reducible refine branch_ff ?_); conv => whnf) | (with_reducible refine branch_not ?_) | ((with_reducible refine slc_e ?_); conv => whnf) | ((with_reducible refine callS_a ?_); conv => whnf) | ((with_reducible refine bld_a ?_); conv => whnf) | ((with_reducible refine own_e ?_); conv => whnf) | ((with_reducible refine mkmap_b ?_); conv => whnf)))
    have e : findM l id = none := by
      unfold findM
      rw [List.find?_eq_none]
      intro x hx
      obtain ⟨i, hi, e⟩ := List.mem_iff_getElem.1 hx
      rw [hall i x (by omega) (by rw [← e]; exact List.getElem?_eq_getElem hi)]; simp
    exact ret_t (rs := [.agg (encM ⟨0, 0, 0, 0, []⟩), .bool false]) ⟨.inr ⟨_, _, rfl, rfl, rc_p rfl, rc_p rfl, rc_p rfl, rc_p rfl, rc_n, trivial⟩, (rc_p rfl).g, trivial⟩ (by rw [e]; rfl)
def eligB (l : List Mrk) (id : Int) (s : Scr) : Bool := match findM l id with | some m => mayB m s | none => false
theorem eligible_ok (l : List Mrk) (id : Int) (s : Scr) (hl : ShortL l) : Good Try.prog TT false 64 [mrksV l, .int .i64 id, .agg (encR s)] (· = .bool (eligB l id s)) := by
  refine good_of mixed tabOk Try.func64 rfl rfl Try.ntmps64 Try.results64 rfl rfl ?_
  (conv => whnf); (repeat (first | (refine arith_i ⟨by omega, by omega⟩ ?_; conv => whnf) | (refine need_i (by first | omega | (simp only [List.length_append, List.length_cons, List.length_nil]; omega)) ?_; conv => whnf) | ((with_reducible refine branch_tt ?_); conv => whnf) | ((with_reducible refine branch_ff ?_); conv => whnf) | (with_reducible refine branch_not ?_) | ((with_reducible refine slc_e ?_); conv => whnf) | ((with_reducible refine callS_a ?_); conv => whnf) | ((with_reducible refine bld_a ?_); conv => whnf) | ((with_reducible refine own_e ?_); conv => whnf) | ((with_reducible refine mkmap_b ?_); conv => whnf)))
  refine call_e (find_ok l id hl) ?_
  unfold eligB
  cases hf : findM l id with
  | some m =>
    have hm : ShortM m := by
      have := List.mem_of_find?_eq_some hf
      obtain ⟨i, hi, e⟩ := List.mem_iff_getElem.1 this
      exact hl.2 i m (by rw [← e]; exact List.getElem?_eq_getElem hi)
    (conv => whnf); (repeat (first | (refine arith_i ⟨by omega, by omega⟩ ?_; conv => whnf) | (refine need_i (by first | omega | (simp only [List.length_append, List.length_cons, List.length_nil]; omega)) ?_; conv => whnf) | ((with_reducible refine branch_tt ?_); conv => whnf) | ((with_reducible refine branch_ff ?_); conv => whnf) | (with_reducible refine branch_not ?_) | ((with_reducible refine slc_e ?_); conv => whnf) | ((with_reducible refine callS_a ?_); conv => whnf) | ((with_reducible refine bld_a ?_); conv => whnf) | ((with_reducible refine own_e ?_); conv => whnf) | ((with_reducible refine mkmap_b ?_); conv => whnf)))
    refine call_e (mayMark_ok m s hm) ?_
    (conv => whnf); (repeat (first | (refine arith_i ⟨by omega, by omega⟩ ?_; conv => whnf) | (refine need_i (by first | omega | (simp only [List.length_append, List.length_cons, List.length_nil]; omega)) ?_; conv => whnf) | ((with_reducible refine branch_tt ?_); conv => whnf) | ((with_reducible refine branch_ff ?_); conv => whnf) | (with_reducible refine branch_not ?_) | ((with_reducible refine slc_e ?_); conv => whnf) | ((with_reducible refine callS_a ?_); conv => whnf) | ((with_reducible refine bld_a ?_); conv => whnf) | ((with_reducible refine own_e ?_); conv => whnf) | ((with_reducible refine mkmap_b ?_); conv => whnf)))
    exact ret_p rfl rfl
  | none =>
    (conv => whnf); (repeat (first | (refine arith_i ⟨by omega, by omega⟩ ?_; conv => whnf) | (refine need_i (by first | omega | (simp only [List.length_append, List.length_cons, List.length_nil]; omega)) ?_; conv => whnf) | ((with_reducible refine branch_tt ?_); conv => whnf) | ((with_reducible refine branch_ff ?_); conv => whnf) | (with_reducible refine branch_not ?_) | ((with_reducible refine slc_e ?_); conv => whnf) | ((with_reducible refine callS_a ?_); conv => whnf) | ((with_reducible refine bld_a ?_); conv => whnf) | ((with_reducible refine own_e ?_); conv => whnf) | ((with_reducible refine mkmap_b ?_); conv => whnf)))
    exact ret_p rfl rfl
end Go.Proofs.Ytkbkdlkfpmcmdaa
