/- Layer 25: the dice's Pick and Bool, the generator of markers, with all that Check asks for. -/
import Derived.Test.YtkbkdlkfpmcmdaaGL25g
namespace Go.Proofs.Ytkbkdlkfpmcmdaa
set_option linter.unusedVariables false
set_option linter.unusedSimpArgs false
set_option linter.unnecessarySimpa false
set_option linter.unusedSectionVars false
set_option maxRecDepth 10000
open Go.RowKit

theorem pick_ok (xs : List Int) (h0 : 0 < xs.length) (hn : xs.length ≤ 1000) : Good Try.prog TT true 43 [.tape, ints xs] (IntR (· ∈ xs)) := by
  have L : (xs.map encI).length = xs.length := List.length_map ..
  refine good_of mixed tabOk Try.func43 rfl rfl Try.ntmps43 Try.results43 rfl rfl ?_
  (conv => whnf); (repeat (first | (refine arith_i ⟨by omega, by omega⟩ ?_; conv => whnf) | (refine need_i (by first | omega | (simp only [List.length_append, List.length_cons, List.length_nil]; omega)) ?_; conv => whnf) | ((with_reducible refine branch_tt ?_); conv => whnf) | ((with_reducible refine branch_ff ?_); conv => whnf) | (with_reducible refine branch_not ?_) | ((with_reducible refine slc_e ?_); conv => whnf) | ((with_reducible refine callS_a ?_); conv => whnf) | ((with_reducible refine bld_a ?_); conv => whnf) | ((with_reducible refine own_e ?_); conv => whnf) | ((with_reducible refine mkmap_b ?_); conv => whnf)))
  refine call_i (next_ok _ (by omega)) fun r hr => ?_
  obtain ⟨x, rfl, -, h2⟩ := hr
  replace h2 := h2 (by omega)
  (conv => whnf); (repeat (first | (refine arith_i ⟨by omega, by omega⟩ ?_; conv => whnf) | (refine need_i (by first | omega | (simp only [List.length_append, List.length_cons, List.length_nil]; omega)) ?_; conv => whnf) | ((with_reducible refine branch_tt ?_); conv => whnf) | ((with_reducible refine branch_ff ?_); conv => whnf) | (with_reducible refine branch_not ?_) | ((with_reducible refine slc_e ?_); conv => whnf) | ((with_reducible refine callS_a ?_); conv => whnf) | ((with_reducible refine bld_a ?_); conv => whnf) | ((with_reducible refine own_e ?_); conv => whnf) | ((with_reducible refine mkmap_b ?_); conv => whnf)))
  refine idx_m (by omega) (by omega) fun y hy => ?_
  (conv => whnf); (repeat (first | (refine arith_i ⟨by omega, by omega⟩ ?_; conv => whnf) | (refine need_i (by first | omega | (simp only [List.length_append, List.length_cons, List.length_nil]; omega)) ?_; conv => whnf) | ((with_reducible refine branch_tt ?_); conv => whnf) | ((with_reducible refine branch_ff ?_); conv => whnf) | (with_reducible refine branch_not ?_) | ((with_reducible refine slc_e ?_); conv => whnf) | ((with_reducible refine callS_a ?_); conv => whnf) | ((with_reducible refine bld_a ?_); conv => whnf) | ((with_reducible refine own_e ?_); conv => whnf) | ((with_reducible refine mkmap_b ?_); conv => whnf)))
  exact ret_p rfl ⟨_, rfl, List.mem_of_getElem? hy⟩
theorem dbool_ok (n : Int) (hn : 1 ≤ n ∧ n ≤ 1000) : Good Try.prog TT true 42 [.tape, .int .i64 n] BoolR := by
  refine good_of mixed tabOk Try.func42 rfl rfl Try.ntmps42 Try.results42 rfl rfl ?_
  (conv => whnf); (repeat (first | (refine arith_i ⟨by omega, by omega⟩ ?_; conv => whnf) | (refine need_i (by first | omega | (simp only [List.length_append, List.length_cons, List.length_nil]; omega)) ?_; conv => whnf) | ((with_reducible refine branch_tt ?_); conv => whnf) | ((with_reducible refine branch_ff ?_); conv => whnf) | (with_reducible refine branch_not ?_) | ((with_reducible refine slc_e ?_); conv => whnf) | ((with_reducible refine callS_a ?_); conv => whnf) | ((with_reducible refine bld_a ?_); conv => whnf) | ((with_reducible refine own_e ?_); conv => whnf) | ((with_reducible refine mkmap_b ?_); conv => whnf)))
  refine call_i (next_ok n (by omega)) fun r hr => ?_
  obtain ⟨x, rfl, -⟩ := hr
  (conv => whnf); (repeat (first | (refine arith_i ⟨by omega, by omega⟩ ?_; conv => whnf) | (refine need_i (by first | omega | (simp only [List.length_append, List.length_cons, List.length_nil]; omega)) ?_; conv => whnf) | ((with_reducible refine branch_tt ?_); conv => whnf) | ((with_reducible refine branch_ff ?_); conv => whnf) | (with_reducible refine branch_not ?_) | ((with_reducible refine slc_e ?_); conv => whnf) | ((with_reducible refine callS_a ?_); conv => whnf) | ((with_reducible refine bld_a ?_); conv => whnf) | ((with_reducible refine own_e ?_); conv => whnf) | ((with_reducible refine mkmap_b ?_); conv => whnf)))
  exact ret_p rfl ⟨_, rfl⟩
def encL (l : List Int) : List AV := [ints l]
structure FineM (l : List Mrk) (v : Int) : Prop where
  all : ∀ (k : Nat) (m : Mrk), l[k]? = some m → GoodMk m ∧ m.id ≤ v ∧ m.cap ≤ 6 ∧ ∀ x ∈ m.papers, x = 0 ∨ x = 1
  asc : AscM l
  low : 0 ≤ v
  up : v ≤ 3 * l.length
theorem snoc_at {α : Type} {l : List α} {x y : α} {k : Nat} (h : (l ++ [x])[k]? = some y) : (k < l.length ∧ l[k]? = some y) ∨ (k = l.length ∧ y = x) := by
  rcases Nat.lt_or_ge k l.length with hk | hk
  · rw [List.getElem?_append_left hk] at h; exact .inl ⟨hk, h⟩
  · rw [List.getElem?_append_right hk] at h
    have : k - l.length = 0 := by
      have := (List.getElem?_eq_some_iff.1 h).1
      simpa using this
    rw [this] at h
    simp at h
    exact .inr ⟨by omega, h.symm⟩
theorem fine_snoc {l : List Mrk} {v : Int} (h : FineM l v) {m : Mrk} (h1 : v + 1 ≤ m.id) (h2 : m.id ≤ v + 3) (h3 : GoodMk m) (h4 : m.cap ≤ 6 ∧ ∀ x ∈ m.papers, x = 0 ∨ x = 1) : FineM (l ++ [m]) m.id := by
  obtain ⟨a, b, c, d⟩ := h
  refine ⟨fun k x hx => ?_, fun i j x y hij hx hy => ?_, by omega, by simp; omega⟩
  · rcases snoc_at hx with ⟨_, h'⟩ | ⟨_, rfl⟩
    · have := a k x h'; exact ⟨this.1, by omega, this.2.2⟩
    · exact ⟨h3, Int.le_refl _, h4⟩
  · rcases snoc_at hx with ⟨hi, h'⟩ | ⟨hi, rfl⟩
    · rcases snoc_at hy with ⟨hj, h''⟩ | ⟨hj, rfl⟩
      · exact b i j x y hij h' h''
      · have := (a i x h').2.1; omega
    · rcases snoc_at hy with ⟨hj, h''⟩ | ⟨hj, rfl⟩
      · omega
      · omega
theorem good_mk {v c lv cp y : Int} {q : List Int} (h1 : 1 ≤ v ∧ v ≤ 15) (hc : c ∈ [-1, -1, 1, 2, 3]) (hl : lv ∈ [1, 1, 1, 2, 3]) (hp : cp ∈ [3, 2, 6, 0, 1]) (hq : q ∈ [[0, 1], [0], [1], [0, 1]]) : GoodMk ⟨v, c, lv, cp, q⟩ := by
  simp only [List.mem_cons, List.not_mem_nil, or_false] at hc hl hp hq
  refine ⟨by simp only; omega, by simp only; omega, by simp only; omega, by simp only; omega, fun k x hx => ?_, fun i h0 hi => ?_, ?_⟩
  · have hm := List.mem_of_getElem? hx
    simp only at hm
    rcases hq with rfl | rfl | rfl | rfl <;> simp only [List.mem_cons, List.not_mem_nil, or_false] at hm
    · rcases hm with rfl | rfl <;> decide
    · subst hm; decide
    · subst hm; decide
    · rcases hm with rfl | rfl <;> decide
  · simp only at hi ⊢
    rcases hq with rfl | rfl | rfl | rfl <;> simp only [List.length_cons, List.length_nil] at hi
    · obtain rfl : i = 1 := by omega
      decide
    · omega
    · omega
    · obtain rfl : i = 1 := by omega
      decide
  · simp only
    rcases hq with rfl | rfl | rfl | rfl <;> simp
def MarkR (r : AV) : Prop := ∃ l, r = .own 0 48 5 (l.map encM) ∧ MksOk l ∧ 2 ≤ l.length ∧ l.length ≤ 5 ∧ ∀ (k : Nat) (m : Mrk), l[k]? = some m → m.id ≤ 15 ∧ m.cap ≤ 6 ∧ ∀ x ∈ m.papers, x = 0 ∨ x = 1
theorem markers_ok : Good Try.prog TT true 14 [.tape] MarkR := by
  refine good_of mixed tabOk Try.func14 rfl rfl Try.ntmps14 Try.results14 rfl rfl ?_
  (conv => whnf); (repeat (first | (refine arith_i ⟨by omega, by omega⟩ ?_; conv => whnf) | (refine need_i (by first | omega | (simp only [List.length_append, List.length_cons, List.length_nil]; omega)) ?_; conv => whnf) | ((with_reducible refine branch_tt ?_); conv => whnf) | ((with_reducible refine branch_ff ?_); conv => whnf) | (with_reducible refine branch_not ?_) | ((with_reducible refine slc_e ?_); conv => whnf) | ((with_reducible refine callS_a ?_); conv => whnf) | ((with_reducible refine bld_a ?_); conv => whnf) | ((with_reducible refine own_e ?_); conv => whnf) | ((with_reducible refine mkmap_b ?_); conv => whnf)))
  refine call_i (next_ok 4 (by omega)) fun r hr => ?_
  obtain ⟨n, rfl, -, hn⟩ := hr
  replace hn := hn (by omega)
  (conv => whnf); (repeat (first | (refine arith_i ⟨by omega, by omega⟩ ?_; conv => whnf) | (refine need_i (by first | omega | (simp only [List.length_append, List.length_cons, List.length_nil]; omega)) ?_; conv => whnf) | ((with_reducible refine branch_tt ?_); conv => whnf) | ((with_reducible refine branch_ff ?_); conv => whnf) | (with_reducible refine branch_not ?_) | ((with_reducible refine slc_e ?_); conv => whnf) | ((with_reducible refine callS_a ?_); conv => whnf) | ((with_reducible refine bld_a ?_); conv => whnf) | ((with_reducible refine own_e ?_); conv => whnf) | ((with_reducible refine mkmap_b ?_); conv => whnf)))
  refine loop_i (fun p : List Mrk × Int => FineM p.1 p.2 ∧ (p.1.length : Int) ≤ 2 + n) (fun p => mkSt [(0, .tape), (3, .own 200 48 5 (p.1.map encM)), (4, .int .i64 p.2), (5, .int .i64 (2 + n - p.1.length))] [] true) (fun p => (2 + n).toNat - p.1.length) ([], 0) ⟨⟨nofun, nofun, by omega, by simp⟩, by simp; omega⟩ (Le.trans (le_adopt 3 200 48 5 rfl) (le_mk ⟨rfl, rfl, rfl, int_eq (by simp), trivial⟩ trivial rfl)) ?_
  rintro ⟨l, v⟩ ⟨hF, hl⟩
  replace hF : FineM l v := hF
  replace hl : (l.length : Int) ≤ 2 + n := hl
  have L : (l.map encM).length = l.length := List.length_map ..
  have hv1 := hF.low
  have hv2 := hF.up
  have hp1 : (l, v).1.length = l.length := rfl
  have hp2 : (l, v).2 = v := rfl
  (conv => whnf); (repeat (first | (refine arith_i ⟨by omega, by omega⟩ ?_; conv => whnf) | (refine need_i (by first | omega | (simp only [List.length_append, List.length_cons, List.length_nil]; omega)) ?_; conv => whnf) | ((with_reducible refine branch_tt ?_); conv => whnf) | ((with_reducible refine branch_ff ?_); conv => whnf) | (with_reducible refine branch_not ?_) | ((with_reducible refine slc_e ?_); conv => whnf) | ((with_reducible refine callS_a ?_); conv => whnf) | ((with_reducible refine bld_a ?_); conv => whnf) | ((with_reducible refine own_e ?_); conv => whnf) | ((with_reducible refine mkmap_b ?_); conv => whnf)))
  refine branch_d (fun h => ?_) (fun h => ?_)
  · replace h : 0 < 2 + n - (l.length : Int) := h
    (conv => whnf); (repeat (first | (refine arith_i ⟨by omega, by omega⟩ ?_; conv => whnf) | (refine need_i (by first | omega | (simp only [List.length_append, List.length_cons, List.length_nil]; omega)) ?_; conv => whnf) | ((with_reducible refine branch_tt ?_); conv => whnf) | ((with_reducible refine branch_ff ?_); conv => whnf) | (with_reducible refine branch_not ?_) | ((with_reducible refine slc_e ?_); conv => whnf) | ((with_reducible refine callS_a ?_); conv => whnf) | ((with_reducible refine bld_a ?_); conv => whnf) | ((with_reducible refine own_e ?_); conv => whnf) | ((with_reducible refine mkmap_b ?_); conv => whnf)))
    refine call_i (next_ok 3 (by omega)) fun r hr => ?_
    obtain ⟨x, rfl, -, hx⟩ := hr
    replace hx := hx (by omega)
    (conv => whnf); (repeat (first | (refine arith_i ⟨by omega, by omega⟩ ?_; conv => whnf) | (refine need_i (by first | omega | (simp only [List.length_append, List.length_cons, List.length_nil]; omega)) ?_; conv => whnf) | ((with_reducible refine branch_tt ?_); conv => whnf) | ((with_reducible refine branch_ff ?_); conv => whnf) | (with_reducible refine branch_not ?_) | ((with_reducible refine slc_e ?_); conv => whnf) | ((with_reducible refine callS_a ?_); conv => whnf) | ((with_reducible refine bld_a ?_); conv => whnf) | ((with_reducible refine own_e ?_); conv => whnf) | ((with_reducible refine mkmap_b ?_); conv => whnf)))
    refine call_i (pick_ok [-1, -1, 1, 2, 3] (by decide) (by decide)) fun r hr => ?_
    obtain ⟨c, rfl, hc⟩ := hr
    (conv => whnf); (repeat (first | (refine arith_i ⟨by omega, by omega⟩ ?_; conv => whnf) | (refine need_i (by first | omega | (simp only [List.length_append, List.length_cons, List.length_nil]; omega)) ?_; conv => whnf) | ((with_reducible refine branch_tt ?_); conv => whnf) | ((with_reducible refine branch_ff ?_); conv => whnf) | (with_reducible refine branch_not ?_) | ((with_reducible refine slc_e ?_); conv => whnf) | ((with_reducible refine callS_a ?_); conv => whnf) | ((with_reducible refine bld_a ?_); conv => whnf) | ((with_reducible refine own_e ?_); conv => whnf) | ((with_reducible refine mkmap_b ?_); conv => whnf)))
    refine call_i (pick_ok [1, 1, 1, 2, 3] (by decide) (by decide)) fun r hr => ?_
    obtain ⟨lv, rfl, hlv⟩ := hr
    (conv => whnf); (repeat (first | (refine arith_i ⟨by omega, by omega⟩ ?_; conv => whnf) | (refine need_i (by first | omega | (simp only [List.length_append, List.length_cons, List.length_nil]; omega)) ?_; conv => whnf) | ((with_reducible refine branch_tt ?_); conv => whnf) | ((with_reducible refine branch_ff ?_); conv => whnf) | (with_reducible refine branch_not ?_) | ((with_reducible refine slc_e ?_); conv => whnf) | ((with_reducible refine callS_a ?_); conv => whnf) | ((with_reducible refine bld_a ?_); conv => whnf) | ((with_reducible refine own_e ?_); conv => whnf) | ((with_reducible refine mkmap_b ?_); conv => whnf)))
    refine call_i (pick_ok [3, 2, 6, 0, 1] (by decide) (by decide)) fun r hr => ?_
    obtain ⟨cp, rfl, hcp⟩ := hr
    (conv => whnf); (repeat (first | (refine arith_i ⟨by omega, by omega⟩ ?_; conv => whnf) | (refine need_i (by first | omega | (simp only [List.length_append, List.length_cons, List.length_nil]; omega)) ?_; conv => whnf) | ((with_reducible refine branch_tt ?_); conv => whnf) | ((with_reducible refine branch_ff ?_); conv => whnf) | (with_reducible refine branch_not ?_) | ((with_reducible refine slc_e ?_); conv => whnf) | ((with_reducible refine callS_a ?_); conv => whnf) | ((with_reducible refine bld_a ?_); conv => whnf) | ((with_reducible refine own_e ?_); conv => whnf) | ((with_reducible refine mkmap_b ?_); conv => whnf)))
    refine call_i (next_ok 4 (by omega)) fun r hr => ?_
    obtain ⟨y, rfl, -, hy⟩ := hr
    replace hy := hy (by omega)
    (conv => whnf); (repeat (first | (refine arith_i ⟨by omega, by omega⟩ ?_; conv => whnf) | (refine need_i (by first | omega | (simp only [List.length_append, List.length_cons, List.length_nil]; omega)) ?_; conv => whnf) | ((with_reducible refine branch_tt ?_); conv => whnf) | ((with_reducible refine branch_ff ?_); conv => whnf) | (with_reducible refine branch_not ?_) | ((with_reducible refine slc_e ?_); conv => whnf) | ((with_reducible refine callS_a ?_); conv => whnf) | ((with_reducible refine bld_a ?_); conv => whnf) | ((with_reducible refine own_e ?_); conv => whnf) | ((with_reducible refine mkmap_b ?_); conv => whnf)))
    refine idx_m (enc := encL) (xs := [[0, 1], [0], [1], [0, 1]]) (by omega) (by show y < 4; omega) fun q hq => ?_
    have hq2 := List.mem_of_getElem? hq
    (conv => whnf); (repeat (first | (refine arith_i ⟨by omega, by omega⟩ ?_; conv => whnf) | (refine need_i (by first | omega | (simp only [List.length_append, List.length_cons, List.length_nil]; omega)) ?_; conv => whnf) | ((with_reducible refine branch_tt ?_); conv => whnf) | ((with_reducible refine branch_ff ?_); conv => whnf) | (with_reducible refine branch_not ?_) | ((with_reducible refine slc_e ?_); conv => whnf) | ((with_reducible refine callS_a ?_); conv => whnf) | ((with_reducible refine bld_a ?_); conv => whnf) | ((with_reducible refine own_e ?_); conv => whnf) | ((with_reducible refine mkmap_b ?_); conv => whnf)))
    refine ⟨(l ++ [⟨v + (1 + x), c, lv, cp, q⟩], v + (1 + x)), ⟨fine_snoc hF (by show v + 1 ≤ v + (1 + x); omega) (by show v + (1 + x) ≤ v + 3; omega) (good_mk (y := 0) (by omega) hc hlv hcp hq2) ⟨by simp only [List.mem_cons, List.not_mem_nil, or_false] at hcp; show cp ≤ 6; omega, by simp only [List.mem_cons, List.not_mem_nil, or_false] at hq2; show ∀ x ∈ q, _; rcases hq2 with rfl | rfl | rfl | rfl <;> simp⟩, by show ((l ++ [_]).length : Int) ≤ _; simp; omega⟩, le_mk ⟨rfl, ?_, rfl, int_eq (by simp; omega), trivial⟩ trivial rfl, by show (2 + n).toNat - (l ++ [_]).length < (2 + n).toNat - l.length; simp; omega⟩
    simp only [List.map_append, List.map_cons, List.map_nil]
    rfl
  · replace h : ¬ 0 < 2 + n - (l.length : Int) := h
    (conv => whnf); (repeat (first | (refine arith_i ⟨by omega, by omega⟩ ?_; conv => whnf) | (refine need_i (by first | omega | (simp only [List.length_append, List.length_cons, List.length_nil]; omega)) ?_; conv => whnf) | ((with_reducible refine branch_tt ?_); conv => whnf) | ((with_reducible refine branch_ff ?_); conv => whnf) | (with_reducible refine branch_not ?_) | ((with_reducible refine slc_e ?_); conv => whnf) | ((with_reducible refine callS_a ?_); conv => whnf) | ((with_reducible refine bld_a ?_); conv => whnf) | ((with_reducible refine own_e ?_); conv => whnf) | ((with_reducible refine mkmap_b ?_); conv => whnf)))
    exact ret_o ⟨l, rfl, ⟨by omega, fun k m hm => (hF.all k m hm).1, hF.asc⟩, by omega, by omega, fun k m hm => by have := (hF.all k m hm).2; exact ⟨by omega, this.2⟩⟩
end Go.Proofs.Ytkbkdlkfpmcmdaa
