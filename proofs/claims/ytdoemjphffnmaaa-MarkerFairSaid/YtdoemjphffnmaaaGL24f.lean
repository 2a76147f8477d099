/- Layer 24 by the interpreter: the dice's Pick and Bool, the generator of markers. -/
import Derived.Test.YtdoemjphffnmaaaGL24d
namespace Go.Proofs.Ytdoemjphffnmaaa
set_option linter.unusedVariables false
set_option linter.unusedSimpArgs false
set_option linter.unnecessarySimpa false
set_option linter.unusedSectionVars false
set_option maxRecDepth 10000
open Go.RowKit

theorem pick_ok (xs : List Int) (h0 : 0 < xs.length) (hn : xs.length ≤ 1000) : Good Try.prog TT true 18 [.tape, ints xs] (IntR (· ∈ xs)) := by
  have L : (xs.map encI).length = xs.length := List.length_map ..
  refine good_of mixed tabOk Try.func18 rfl rfl Try.ntmps18 Try.results18 rfl rfl ?_
  (conv => whnf); (repeat (first | (refine arith_i ⟨by omega, by omega⟩ ?_; conv => whnf) | (refine need_i (by first | omega | (simp only [List.length_append, List.length_cons, List.length_nil]; omega)) ?_; conv => whnf) | ((with_reducible refine branch_tt ?_); conv => whnf) | ((with_reducible refine branch_ff ?_); conv => whnf) | (with_reducible refine branch_not ?_)))
  refine call_i (next_ok _ (by omega)) fun r hr => ?_
  obtain ⟨x, rfl, -, h2⟩ := hr
  replace h2 := h2 (by omega)
  (conv => whnf); (repeat (first | (refine arith_i ⟨by omega, by omega⟩ ?_; conv => whnf) | (refine need_i (by first | omega | (simp only [List.length_append, List.length_cons, List.length_nil]; omega)) ?_; conv => whnf) | ((with_reducible refine branch_tt ?_); conv => whnf) | ((with_reducible refine branch_ff ?_); conv => whnf) | (with_reducible refine branch_not ?_)))
  refine idx_m (by omega) (by omega) fun y hy => ?_
  (conv => whnf); (repeat (first | (refine arith_i ⟨by omega, by omega⟩ ?_; conv => whnf) | (refine need_i (by first | omega | (simp only [List.length_append, List.length_cons, List.length_nil]; omega)) ?_; conv => whnf) | ((with_reducible refine branch_tt ?_); conv => whnf) | ((with_reducible refine branch_ff ?_); conv => whnf) | (with_reducible refine branch_not ?_)))
  exact ret_p rfl ⟨_, rfl, List.mem_of_getElem? hy⟩
theorem dbool_ok (n : Int) (hn : 1 ≤ n ∧ n ≤ 1000) : Good Try.prog TT true 20 [.tape, .int .i64 n] BoolR := by
  refine good_of mixed tabOk Try.func20 rfl rfl Try.ntmps20 Try.results20 rfl rfl ?_
  (conv => whnf); (repeat (first | (refine arith_i ⟨by omega, by omega⟩ ?_; conv => whnf) | (refine need_i (by first | omega | (simp only [List.length_append, List.length_cons, List.length_nil]; omega)) ?_; conv => whnf) | ((with_reducible refine branch_tt ?_); conv => whnf) | ((with_reducible refine branch_ff ?_); conv => whnf) | (with_reducible refine branch_not ?_)))
  refine call_i (next_ok n (by omega)) fun r hr => ?_
  obtain ⟨x, rfl, -⟩ := hr
  (conv => whnf); (repeat (first | (refine arith_i ⟨by omega, by omega⟩ ?_; conv => whnf) | (refine need_i (by first | omega | (simp only [List.length_append, List.length_cons, List.length_nil]; omega)) ?_; conv => whnf) | ((with_reducible refine branch_tt ?_); conv => whnf) | ((with_reducible refine branch_ff ?_); conv => whnf) | (with_reducible refine branch_not ?_)))
  exact ret_p rfl ⟨_, rfl⟩
def encL (l : List Int) : List AV := [ints l]
structure FineM (l : List Mrk) (v : Int) : Prop where
  all : ∀ (k : Nat) (m : Mrk), l[k]? = some m → 1 ≤ m.id ∧ m.id ≤ v ∧ m.papers.length ≤ 2 ∧ 1 ≤ m.level
  asc : AscM l
  low : 0 ≤ v
  up : v ≤ 3 * l.length
theorem snoc_at {α : Type} {l : List α} {x y : α} {k : Nat} (h : (l ++ [x])[k]? = some y) : (k < l.length ∧ l[k]? = some y) ∨ (k = l.length ∧ y = x) := by
  rcases Nat.lt_or_ge k l.length with hk | hk
  · rw [List.getElem?_append_left hk] at h; exact .inl ⟨hk, h⟩
  · rw [List.getElem?_append_right hk] at h
    have : k - l.length = 0 := by
      have := (List.getElem?_eq_some_iff.1 h).1
      simpa using this
    rw [this] at h
    simp at h
    exact .inr ⟨by omega, h.symm⟩
theorem fine_snoc {l : List Mrk} {v : Int} (h : FineM l v) {m : Mrk} (h1 : v + 1 ≤ m.id) (h2 : m.id ≤ v + 3) (h3 : m.papers.length ≤ 2) (h4 : 1 ≤ m.level) : FineM (l ++ [m]) m.id := by
  obtain ⟨a, b, c, d⟩ := h
  refine ⟨fun k x hx => ?_, fun i j x y hij hx hy => ?_, by omega, by simp; omega⟩
  · rcases snoc_at hx with ⟨_, h'⟩ | ⟨_, rfl⟩
    · have := a k x h'; omega
    · omega
  · rcases snoc_at hx with ⟨hi, h'⟩ | ⟨hi, rfl⟩
    · rcases snoc_at hy with ⟨hj, h''⟩ | ⟨hj, rfl⟩
      · exact b i j x y hij h' h''
      · have := a i x h'; omega
    · rcases snoc_at hy with ⟨hj, h''⟩ | ⟨hj, rfl⟩
      · omega
      · omega
def MarkR (r : AV) : Prop := ∃ l v, r = .own 0 38 5 (l.map encM) ∧ FineM l v ∧ l.length ≤ 5
theorem markers_ok : Good Try.prog TT true 8 [.tape] MarkR := by
  refine good_of mixed tabOk Try.func8 rfl rfl Try.ntmps8 Try.results8 rfl rfl ?_
  (conv => whnf); (repeat (first | (refine arith_i ⟨by omega, by omega⟩ ?_; conv => whnf) | (refine need_i (by first | omega | (simp only [List.length_append, List.length_cons, List.length_nil]; omega)) ?_; conv => whnf) | ((with_reducible refine branch_tt ?_); conv => whnf) | ((with_reducible refine branch_ff ?_); conv => whnf) | (with_reducible refine branch_not ?_)))
  refine call_i (next_ok 4 (by omega)) fun r hr => ?_
  obtain ⟨n, rfl, -, hn⟩ := hr
  replace hn := hn (by omega)
  (conv => whnf); (repeat (first | (refine arith_i ⟨by omega, by omega⟩ ?_; conv => whnf) | (refine need_i (by first | omega | (simp only [List.length_append, List.length_cons, List.length_nil]; omega)) ?_; conv => whnf) | ((with_reducible refine branch_tt ?_); conv => whnf) | ((with_reducible refine branch_ff ?_); conv => whnf) | (with_reducible refine branch_not ?_)))
  refine loop_i (fun p : List Mrk × Int => FineM p.1 p.2 ∧ (p.1.length : Int) ≤ 2 + n) (fun p => mkSt [(0, .tape), (3, .own 200 38 5 (p.1.map encM)), (4, .int .i64 p.2), (5, .int .i64 (2 + n - p.1.length))] [] true) (fun p => (2 + n).toNat - p.1.length) ([], 0) ⟨⟨nofun, nofun, by omega, by simp⟩, by simp; omega⟩ (Le.trans (le_adopt 3 200 38 5 rfl) (le_mk ⟨rfl, rfl, rfl, int_eq (by simp), trivial⟩ trivial rfl)) ?_
  rintro ⟨l, v⟩ ⟨hF, hl⟩
  replace hF : FineM l v := hF
  replace hl : (l.length : Int) ≤ 2 + n := hl
  have L : (l.map encM).length = l.length := List.length_map ..
  have hv1 := hF.low
  have hv2 := hF.up
  have hp1 : (l, v).1.length = l.length := rfl
  have hp2 : (l, v).2 = v := rfl
  (conv => whnf); (repeat (first | (refine arith_i ⟨by omega, by omega⟩ ?_; conv => whnf) | (refine need_i (by first | omega | (simp only [List.length_append, List.length_cons, List.length_nil]; omega)) ?_; conv => whnf) | ((with_reducible refine branch_tt ?_); conv => whnf) | ((with_reducible refine branch_ff ?_); conv => whnf) | (with_reducible refine branch_not ?_)))
  refine branch_d (fun h => ?_) (fun h => ?_)
  · replace h : 0 < 2 + n - (l.length : Int) := h
    (conv => whnf); (repeat (first | (refine arith_i ⟨by omega, by omega⟩ ?_; conv => whnf) | (refine need_i (by first | omega | (simp only [List.length_append, List.length_cons, List.length_nil]; omega)) ?_; conv => whnf) | ((with_reducible refine branch_tt ?_); conv => whnf) | ((with_reducible refine branch_ff ?_); conv => whnf) | (with_reducible refine branch_not ?_)))
    refine call_i (next_ok 3 (by omega)) fun r hr => ?_
    obtain ⟨x, rfl, -, hx⟩ := hr
    replace hx := hx (by omega)
    (conv => whnf); (repeat (first | (refine arith_i ⟨by omega, by omega⟩ ?_; conv => whnf) | (refine need_i (by first | omega | (simp only [List.length_append, List.length_cons, List.length_nil]; omega)) ?_; conv => whnf) | ((with_reducible refine branch_tt ?_); conv => whnf) | ((with_reducible refine branch_ff ?_); conv => whnf) | (with_reducible refine branch_not ?_)))
    refine call_i (pick_ok [-1, -1, 1, 2, 3] (by decide) (by decide)) fun r hr => ?_
    obtain ⟨c, rfl, -⟩ := hr
    (conv => whnf); (repeat (first | (refine arith_i ⟨by omega, by omega⟩ ?_; conv => whnf) | (refine need_i (by first | omega | (simp only [List.length_append, List.length_cons, List.length_nil]; omega)) ?_; conv => whnf) | ((with_reducible refine branch_tt ?_); conv => whnf) | ((with_reducible refine branch_ff ?_); conv => whnf) | (with_reducible refine branch_not ?_)))
    refine call_i (pick_ok [1, 1, 1, 2, 3] (by decide) (by decide)) fun r hr => ?_
    obtain ⟨lv, rfl, hlv⟩ := hr
    have hlv2 : 1 ≤ lv := by simp at hlv; omega
    (conv => whnf); (repeat (first | (refine arith_i ⟨by omega, by omega⟩ ?_; conv => whnf) | (refine need_i (by first | omega | (simp only [List.length_append, List.length_cons, List.length_nil]; omega)) ?_; conv => whnf) | ((with_reducible refine branch_tt ?_); conv => whnf) | ((with_reducible refine branch_ff ?_); conv => whnf) | (with_reducible refine branch_not ?_)))
    refine call_i (pick_ok [3, 2, 6, 0, 1] (by decide) (by decide)) fun r hr => ?_
    obtain ⟨cp, rfl, -⟩ := hr
    (conv => whnf); (repeat (first | (refine arith_i ⟨by omega, by omega⟩ ?_; conv => whnf) | (refine need_i (by first | omega | (simp only [List.length_append, List.length_cons, List.length_nil]; omega)) ?_; conv => whnf) | ((with_reducible refine branch_tt ?_); conv => whnf) | ((with_reducible refine branch_ff ?_); conv => whnf) | (with_reducible refine branch_not ?_)))
    refine call_i (next_ok 4 (by omega)) fun r hr => ?_
    obtain ⟨y, rfl, -, hy⟩ := hr
    replace hy := hy (by omega)
    (conv => whnf); (repeat (first | (refine arith_i ⟨by omega, by omega⟩ ?_; conv => whnf) | (refine need_i (by first | omega | (simp only [List.length_append, List.length_cons, List.length_nil]; omega)) ?_; conv => whnf) | ((with_reducible refine branch_tt ?_); conv => whnf) | ((with_reducible refine branch_ff ?_); conv => whnf) | (with_reducible refine branch_not ?_)))
    refine idx_m (enc := encL) (xs := [[0, 1], [0], [1], [0, 1]]) (by omega) (by show y < 4; omega) fun q hq => ?_
    have hq2 : q.length ≤ 2 := by
      have := List.mem_of_getElem? hq
      simp at this
      rcases this with rfl | rfl | rfl | rfl <;> decide
    (conv => whnf); (repeat (first | (refine arith_i ⟨by omega, by omega⟩ ?_; conv => whnf) | (refine need_i (by first | omega | (simp only [List.length_append, List.length_cons, List.length_nil]; omega)) ?_; conv => whnf) | ((with_reducible refine branch_tt ?_); conv => whnf) | ((with_reducible refine branch_ff ?_); conv => whnf) | (with_reducible refine branch_not ?_)))
    refine ⟨(l ++ [⟨v + (1 + x), c, lv, cp, q⟩], v + (1 + x)), ⟨fine_snoc hF (by show v + 1 ≤ v + (1 + x); omega) (by show v + (1 + x) ≤ v + 3; omega) hq2 hlv2, by show ((l ++ [_]).length : Int) ≤ _; simp; omega⟩, le_mk ⟨rfl, ?_, rfl, int_eq (by simp; omega), trivial⟩ trivial rfl, by show (2 + n).toNat - (l ++ [_]).length < (2 + n).toNat - l.length; simp; omega⟩
    simp only [List.map_append, List.map_cons, List.map_nil]
    rfl
  · replace h : ¬ 0 < 2 + n - (l.length : Int) := h
    (conv => whnf); (repeat (first | (refine arith_i ⟨by omega, by omega⟩ ?_; conv => whnf) | (refine need_i (by first | omega | (simp only [List.length_append, List.length_cons, List.length_nil]; omega)) ?_; conv => whnf) | ((with_reducible refine branch_tt ?_); conv => whnf) | ((with_reducible refine branch_ff ?_); conv => whnf) | (with_reducible refine branch_not ?_)))
    exact ret_o ⟨l, v, rfl, hF, by omega⟩
end Go.Proofs.Ytdoemjphffnmaaa
