/- Layer 5 by the interpreter: the generator of syllabuses. -/
import Derived.Test.YtcnjdkfppobdhaaGL05g
namespace Go.Proofs.Ytcnjdkfppobdhaa
set_option linter.unusedVariables false
set_option linter.unusedSimpArgs false
set_option linter.unnecessarySimpa false
set_option linter.unusedSectionVars false
set_option maxRecDepth 10000
open Go.RowKit

def words : List ByteArray := [⟨#[110, 117, 109, 98, 101, 114]⟩, ⟨#[97, 108, 103, 101, 98, 114, 97]⟩, ⟨#[103, 114, 97, 112, 104, 115]⟩, ⟨#[115, 104, 97, 112, 101]⟩, ⟨#[99, 104, 97, 110, 99, 101]⟩, ⟨#[100, 97, 116, 97]⟩]
def BaseT (l : List Tpc) : Prop := l.length ≤ 6 ∧ ∀ (k : Nat) (t : Tpc), l[k]? = some t → words[k]? = some t.name ∧ parB k t.parent = true
def BaseO (l : List ByteArray) : Prop := l.length ≤ 3 ∧ ∀ (k : Nat) (x : ByteArray), l[k]? = some x → words[k]? = some x
def BaseC (l : List Cmp) : Prop := l.length ≤ 3 ∧ ∀ (k : Nat) (c : Cmp), l[k]? = some c → words[k]? = some c.name ∧ cmpB c = true
def sylO (ts : List Tpc) (os : List ByteArray) (cs : List Cmp) : List AV := [.own 200 36 2 (ts.map encTpc), .own 201 9 1 (os.map encS), .own 202 38 3 (cs.map encCmp)]
def syl0 : List AV := [.nil, .nil, .nil]
def SylR (n : Int) (r : AV) : Prop := ∃ s, r = sylV s ∧ ShortS s ∧ (n = 0 → BaseT s.tops ∧ BaseO s.objs ∧ BaseC s.comps)
theorem syl_ret {n : Int} {cs : List AV} (ts : List Tpc) (os : List ByteArray) (ks : List Cmp) (e : cs = sylO ts os ks) (h1 : ts.length ≤ 20) (h2 : os.length ≤ 20) (h3 : ks.length ≤ 20) (hb : n = 0 → BaseT ts ∧ BaseO os ∧ BaseC ks) : aret (.agg cs) (SylR n) := by
  subst e
  exact ret_a (cs' := sylC ⟨ts, os, ks⟩) ⟨rc_o, rc_o, rc_o, trivial⟩ ⟨_, rfl, ⟨by show ts.length ≤ 1000; omega, by show os.length ≤ 1000; omega, by show ks.length ≤ 1000; omega⟩, hb⟩
theorem snoc_at {α : Type} {l : List α} {x y : α} {k : Nat} (h : (l ++ [x])[k]? = some y) : (k < l.length ∧ l[k]? = some y) ∨ (k = l.length ∧ y = x) := by
  rcases Nat.lt_or_ge k l.length with hk | hk
  · rw [List.getElem?_append_left hk] at h; exact .inl ⟨hk, h⟩
  · rw [List.getElem?_append_right hk] at h
    have : k - l.length = 0 := by
      have := (List.getElem?_eq_some_iff.1 h).1
      simpa using this
    rw [this] at h
    simp at h
    exact .inr ⟨by omega, h.symm⟩
theorem baseT_snoc {l : List Tpc} {t : Tpc} (h : BaseT l) (hl : l.length < 6) (h1 : words[l.length]? = some t.name) (h2 : parB l.length t.parent = true) : BaseT (l ++ [t]) := by
  refine ⟨by simp; omega, fun k x hx => ?_⟩
  rcases snoc_at hx with ⟨_, h'⟩ | ⟨rfl, rfl⟩
  · exact h.2 k x h'
  · exact ⟨h1, h2⟩
theorem baseO_snoc {l : List ByteArray} {t : ByteArray} (h : BaseO l) (hl : l.length < 3) (h1 : words[l.length]? = some t) : BaseO (l ++ [t]) := by
  refine ⟨by simp; omega, fun k x hx => ?_⟩
  rcases snoc_at hx with ⟨_, h'⟩ | ⟨rfl, rfl⟩
  · exact h.2 k x h'
  · exact h1
theorem baseC_snoc {l : List Cmp} {t : Cmp} (h : BaseC l) (hl : l.length < 3) (h1 : words[l.length]? = some t.name) (h2 : cmpB t = true) : BaseC (l ++ [t]) := by
  refine ⟨by simp; omega, fun k x hx => ?_⟩
  rcases snoc_at hx with ⟨_, h'⟩ | ⟨rfl, rfl⟩
  · exact h.2 k x h'
  · exact ⟨h1, h2⟩
theorem cut_small {k : Nat} (h : k < 6) : cutG k 6 = k := by
  unfold cutG
  have e : Int.tmod k 6 = k := Int.tmod_eq_of_lt (by omega) (by omega)
  rw [if_neg (by omega), e, if_neg (by omega)]
set_option maxHeartbeats 1000000 in
theorem syllabus_ok (n : Int) (hn : 0 ≤ n ∧ n ≤ 1000) : Good Try.prog TT true 12 [.tape, .int .i64 n] (SylR n) := by
  refine good_of mixed tabOk Try.func12 rfl rfl Try.ntmps12 Try.results12 rfl rfl ?_
  (conv => whnf); (repeat (first | (refine arith_i ⟨by omega, by omega⟩ ?_; conv => whnf) | (refine need_i (by first | omega | (simp only [List.length_append, List.length_cons, List.length_nil]; omega)) ?_; conv => whnf) | ((with_reducible refine branch_tt ?_); conv => whnf) | ((with_reducible refine branch_ff ?_); conv => whnf) | (with_reducible refine branch_not ?_)))
  refine loop_i (fun ts : List Tpc => BaseT ts) (fun ts => mkSt [(0, .tape), (1, .int .i64 n), (4, .ptr 4 0), (5, strs words), (6, .ptr 6 0), (7, .int .i64 ts.length)] [(4, syl0), (6, sylO ts [] [])] true) (fun ts => 6 - ts.length) [] ⟨by decide, nofun⟩ (Le.trans (le_erase 10) (Le.trans (le_adoptBox 6 0 200 36 2 rfl rfl) (Le.trans (le_adoptBox 6 1 201 9 1 rfl rfl) (Le.trans (le_adoptBox 6 2 202 38 3 rfl rfl) (le_mk ⟨rfl, rfl, rfl, rfl, rfl, rfl, trivial⟩ ⟨rfl, rfl, trivial⟩ rfl))))) ?_
  intro ts hT
  have L1 : (ts.map encTpc).length = ts.length := List.length_map ..
  have hT1 := hT.1
  (conv => whnf); (repeat (first | (refine arith_i ⟨by omega, by omega⟩ ?_; conv => whnf) | (refine need_i (by first | omega | (simp only [List.length_append, List.length_cons, List.length_nil]; omega)) ?_; conv => whnf) | ((with_reducible refine branch_tt ?_); conv => whnf) | ((with_reducible refine branch_ff ?_); conv => whnf) | (with_reducible refine branch_not ?_)))
  refine call_i (range_ok 1 6 (by omega) (by omega)) fun r hr => ?_
  obtain ⟨a, rfl, -, ha⟩ := hr
  replace ha := ha (by omega)
  (conv => whnf); (repeat (first | (refine arith_i ⟨by omega, by omega⟩ ?_; conv => whnf) | (refine need_i (by first | omega | (simp only [List.length_append, List.length_cons, List.length_nil]; omega)) ?_; conv => whnf) | ((with_reducible refine branch_tt ?_); conv => whnf) | ((with_reducible refine branch_ff ?_); conv => whnf) | (with_reducible refine branch_not ?_)))
  refine branch_d (fun h => ?_) (fun h => ?_)
  · (conv => whnf); (repeat (first | (refine arith_i ⟨by omega, by omega⟩ ?_; conv => whnf) | (refine need_i (by first | omega | (simp only [List.length_append, List.length_cons, List.length_nil]; omega)) ?_; conv => whnf) | ((with_reducible refine branch_tt ?_); conv => whnf) | ((with_reducible refine branch_ff ?_); conv => whnf) | (with_reducible refine branch_not ?_)))
    refine draw_i 15 (.take 0 (.take 1 (.take 2 (.take 3 (.take 7 (.take 8 (.take 9 (.alt 4 (.take 5 (.alt 6 (.alt 10 (.take 11 (.alt 12 (.alt 13 (.take 14 (.alt 15 .done .stop)) .stop) .stop)) .stop) (.alt 10 (.alt 6 (.take 11 (.alt 12 (.alt 13 (.take 14 (.alt 15 .done .stop)) .stop) .stop)) .stop) .stop))) .stop)))))))) (by decide +kernel) ?_
    (conv => whnf); (repeat (first | (refine arith_i ⟨by omega, by omega⟩ ?_; conv => whnf) | (refine need_i (by first | omega | (simp only [List.length_append, List.length_cons, List.length_nil]; omega)) ?_; conv => whnf) | ((with_reducible refine branch_tt ?_); conv => whnf) | ((with_reducible refine branch_ff ?_); conv => whnf) | (with_reducible refine branch_not ?_)))
    refine ⟨?_, trivial⟩
    (conv => whnf); (repeat (first | (refine arith_i ⟨by omega, by omega⟩ ?_; conv => whnf) | (refine need_i (by first | omega | (simp only [List.length_append, List.length_cons, List.length_nil]; omega)) ?_; conv => whnf) | ((with_reducible refine branch_tt ?_); conv => whnf) | ((with_reducible refine branch_ff ?_); conv => whnf) | (with_reducible refine branch_not ?_)))
    refine call_e ((cut_ok ts.length 6 (by omega)).mono fun r h => h.trans (int_eq (cut_small (by omega)))) ?_
    (conv => whnf); (repeat (first | (refine arith_i ⟨by omega, by omega⟩ ?_; conv => whnf) | (refine need_i (by first | omega | (simp only [List.length_append, List.length_cons, List.length_nil]; omega)) ?_; conv => whnf) | ((with_reducible refine branch_tt ?_); conv => whnf) | ((with_reducible refine branch_ff ?_); conv => whnf) | (with_reducible refine branch_not ?_)))
    refine idx_m (by omega) (by have : words.length = 6 := rfl; omega) fun x hx => ?_
    rw [Int.toNat_natCast] at hx
    (conv => whnf); (repeat (first | (refine arith_i ⟨by omega, by omega⟩ ?_; conv => whnf) | (refine need_i (by first | omega | (simp only [List.length_append, List.length_cons, List.length_nil]; omega)) ?_; conv => whnf) | ((with_reducible refine branch_tt ?_); conv => whnf) | ((with_reducible refine branch_ff ?_); conv => whnf) | (with_reducible refine branch_not ?_)))
    refine ⟨?_, ?_, trivial⟩
    · (conv => whnf); (repeat (first | (refine arith_i ⟨by omega, by omega⟩ ?_; conv => whnf) | (refine need_i (by first | omega | (simp only [List.length_append, List.length_cons, List.length_nil]; omega)) ?_; conv => whnf) | ((with_reducible refine branch_tt ?_); conv => whnf) | ((with_reducible refine branch_ff ?_); conv => whnf) | (with_reducible refine branch_not ?_)))
      refine ⟨?_, trivial⟩
      (conv => whnf); (repeat (first | (refine arith_i ⟨by omega, by omega⟩ ?_; conv => whnf) | (refine need_i (by first | omega | (simp only [List.length_append, List.length_cons, List.length_nil]; omega)) ?_; conv => whnf) | ((with_reducible refine branch_tt ?_); conv => whnf) | ((with_reducible refine branch_ff ?_); conv => whnf) | (with_reducible refine branch_not ?_)))
      refine call_i (range_ok (-1) (ts.length - 1) (by omega) (by omega)) fun r hr => ?_
      obtain ⟨q, rfl, -, hq⟩ := hr
      replace hq := hq (by omega)
      (conv => whnf); (repeat (first | (refine arith_i ⟨by omega, by omega⟩ ?_; conv => whnf) | (refine need_i (by first | omega | (simp only [List.length_append, List.length_cons, List.length_nil]; omega)) ?_; conv => whnf) | ((with_reducible refine branch_tt ?_); conv => whnf) | ((with_reducible refine branch_ff ?_); conv => whnf) | (with_reducible refine branch_not ?_)))
      refine ⟨?_, trivial⟩
      (conv => whnf); (repeat (first | (refine arith_i ⟨by omega, by omega⟩ ?_; conv => whnf) | (refine need_i (by first | omega | (simp only [List.length_append, List.length_cons, List.length_nil]; omega)) ?_; conv => whnf) | ((with_reducible refine branch_tt ?_); conv => whnf) | ((with_reducible refine branch_ff ?_); conv => whnf) | (with_reducible refine branch_not ?_)))
      refine ⟨?_, trivial⟩
      (conv => whnf); (repeat (first | (refine arith_i ⟨by omega, by omega⟩ ?_; conv => whnf) | (refine need_i (by first | omega | (simp only [List.length_append, List.length_cons, List.length_nil]; omega)) ?_; conv => whnf) | ((with_reducible refine branch_tt ?_); conv => whnf) | ((with_reducible refine branch_ff ?_); conv => whnf) | (with_reducible refine branch_not ?_)))
      refine ⟨?_, trivial⟩
      (conv => whnf); (repeat (first | (refine arith_i ⟨by omega, by omega⟩ ?_; conv => whnf) | (refine need_i (by first | omega | (simp only [List.length_append, List.length_cons, List.length_nil]; omega)) ?_; conv => whnf) | ((with_reducible refine branch_tt ?_); conv => whnf) | ((with_reducible refine branch_ff ?_); conv => whnf) | (with_reducible refine branch_not ?_)))
      refine ⟨ts ++ [⟨x, q⟩], baseT_snoc hT (by omega) hx (by simp [parB]; omega), le_mk ⟨rfl, rfl, rfl, rfl, rfl, int_eq (by simp), trivial⟩ ⟨rfl, ?_, trivial⟩ rfl, by simp; omega⟩
      conv => lhs; whnf
      conv => lhs; arg 1; simp only [setRange, List.map, St.map, killF, sylO]
      simp [sylO, encTpc]
      rfl
    · (conv => whnf); (repeat (first | (refine arith_i ⟨by omega, by omega⟩ ?_; conv => whnf) | (refine need_i (by first | omega | (simp only [List.length_append, List.length_cons, List.length_nil]; omega)) ?_; conv => whnf) | ((with_reducible refine branch_tt ?_); conv => whnf) | ((with_reducible refine branch_ff ?_); conv => whnf) | (with_reducible refine branch_not ?_)))
      refine call_i (range_ok (-1) (ts.length - 1) (by omega) (by omega)) fun r hr => ?_
      obtain ⟨q, rfl, -, hq⟩ := hr
      replace hq := hq (by omega)
      (conv => whnf); (repeat (first | (refine arith_i ⟨by omega, by omega⟩ ?_; conv => whnf) | (refine need_i (by first | omega | (simp only [List.length_append, List.length_cons, List.length_nil]; omega)) ?_; conv => whnf) | ((with_reducible refine branch_tt ?_); conv => whnf) | ((with_reducible refine branch_ff ?_); conv => whnf) | (with_reducible refine branch_not ?_)))
      refine ⟨?_, trivial⟩
      (conv => whnf); (repeat (first | (refine arith_i ⟨by omega, by omega⟩ ?_; conv => whnf) | (refine need_i (by first | omega | (simp only [List.length_append, List.length_cons, List.length_nil]; omega)) ?_; conv => whnf) | ((with_reducible refine branch_tt ?_); conv => whnf) | ((with_reducible refine branch_ff ?_); conv => whnf) | (with_reducible refine branch_not ?_)))
      refine ⟨?_, trivial⟩
      (conv => whnf); (repeat (first | (refine arith_i ⟨by omega, by omega⟩ ?_; conv => whnf) | (refine need_i (by first | omega | (simp only [List.length_append, List.length_cons, List.length_nil]; omega)) ?_; conv => whnf) | ((with_reducible refine branch_tt ?_); conv => whnf) | ((with_reducible refine branch_ff ?_); conv => whnf) | (with_reducible refine branch_not ?_)))
      refine ⟨?_, trivial⟩
      (conv => whnf); (repeat (first | (refine arith_i ⟨by omega, by omega⟩ ?_; conv => whnf) | (refine need_i (by first | omega | (simp only [List.length_append, List.length_cons, List.length_nil]; omega)) ?_; conv => whnf) | ((with_reducible refine branch_tt ?_); conv => whnf) | ((with_reducible refine branch_ff ?_); conv => whnf) | (with_reducible refine branch_not ?_)))
      refine ⟨?_, trivial⟩
      (conv => whnf); (repeat (first | (refine arith_i ⟨by omega, by omega⟩ ?_; conv => whnf) | (refine need_i (by first | omega | (simp only [List.length_append, List.length_cons, List.length_nil]; omega)) ?_; conv => whnf) | ((with_reducible refine branch_tt ?_); conv => whnf) | ((with_reducible refine branch_ff ?_); conv => whnf) | (with_reducible refine branch_not ?_)))
      refine ⟨ts ++ [⟨x, q⟩], baseT_snoc hT (by omega) hx (by simp [parB]; omega), le_mk ⟨rfl, rfl, rfl, rfl, rfl, int_eq (by simp), trivial⟩ ⟨rfl, ?_, trivial⟩ rfl, by simp; omega⟩
      conv => lhs; whnf
      conv => lhs; arg 1; simp only [setRange, List.map, St.map, killF, sylO]
      simp [sylO, encTpc]
      rfl
  · clear h
    (conv => whnf); (repeat (first | (refine arith_i ⟨by omega, by omega⟩ ?_; conv => whnf) | (refine need_i (by first | omega | (simp only [List.length_append, List.length_cons, List.length_nil]; omega)) ?_; conv => whnf) | ((with_reducible refine branch_tt ?_); conv => whnf) | ((with_reducible refine branch_ff ?_); conv => whnf) | (with_reducible refine branch_not ?_)))
    refine loop_i (fun os : List ByteArray => BaseO os) (fun os => mkSt [(0, .tape), (1, .int .i64 n), (4, .ptr 4 0), (5, strs words), (6, .ptr 6 0), (8, .int .i64 os.length)] [(4, syl0), (6, sylO ts os [])] true) (fun os => 3 - os.length) [] ⟨by decide, nofun⟩ (le_mk ⟨rfl, rfl, rfl, rfl, rfl, rfl, trivial⟩ ⟨rfl, rfl, trivial⟩ rfl) ?_
    intro os hO
    have L2 : (os.map encS).length = os.length := List.length_map ..
    have hO1 := hO.1
    (conv => whnf); (repeat (first | (refine arith_i ⟨by omega, by omega⟩ ?_; conv => whnf) | (refine need_i (by first | omega | (simp only [List.length_append, List.length_cons, List.length_nil]; omega)) ?_; conv => whnf) | ((with_reducible refine branch_tt ?_); conv => whnf) | ((with_reducible refine branch_ff ?_); conv => whnf) | (with_reducible refine branch_not ?_)))
    refine call_i (range_ok 0 3 (by omega) (by omega)) fun r hr => ?_
    obtain ⟨b, rfl, -, hb⟩ := hr
    replace hb := hb (by omega)
    (conv => whnf); (repeat (first | (refine arith_i ⟨by omega, by omega⟩ ?_; conv => whnf) | (refine need_i (by first | omega | (simp only [List.length_append, List.length_cons, List.length_nil]; omega)) ?_; conv => whnf) | ((with_reducible refine branch_tt ?_); conv => whnf) | ((with_reducible refine branch_ff ?_); conv => whnf) | (with_reducible refine branch_not ?_)))
    refine branch_d (fun h => ?_) (fun h => ?_)
    · (conv => whnf); (repeat (first | (refine arith_i ⟨by omega, by omega⟩ ?_; conv => whnf) | (refine need_i (by first | omega | (simp only [List.length_append, List.length_cons, List.length_nil]; omega)) ?_; conv => whnf) | ((with_reducible refine branch_tt ?_); conv => whnf) | ((with_reducible refine branch_ff ?_); conv => whnf) | (with_reducible refine branch_not ?_)))
      refine draw_i 10 (.take 0 (.take 1 (.take 2 (.take 3 (.alt 4 (.take 5 (.alt 6 (.alt 7 (.alt 8 (.take 9 (.alt 10 .done .stop)) .stop) .stop) .stop)) .stop))))) (by decide +kernel) ?_
      (conv => whnf); (repeat (first | (refine arith_i ⟨by omega, by omega⟩ ?_; conv => whnf) | (refine need_i (by first | omega | (simp only [List.length_append, List.length_cons, List.length_nil]; omega)) ?_; conv => whnf) | ((with_reducible refine branch_tt ?_); conv => whnf) | ((with_reducible refine branch_ff ?_); conv => whnf) | (with_reducible refine branch_not ?_)))
      refine ⟨?_, trivial⟩
      (conv => whnf); (repeat (first | (refine arith_i ⟨by omega, by omega⟩ ?_; conv => whnf) | (refine need_i (by first | omega | (simp only [List.length_append, List.length_cons, List.length_nil]; omega)) ?_; conv => whnf) | ((with_reducible refine branch_tt ?_); conv => whnf) | ((with_reducible refine branch_ff ?_); conv => whnf) | (with_reducible refine branch_not ?_)))
      refine call_e ((cut_ok os.length 6 (by omega)).mono fun r h => h.trans (int_eq (cut_small (by omega)))) ?_
      (conv => whnf); (repeat (first | (refine arith_i ⟨by omega, by omega⟩ ?_; conv => whnf) | (refine need_i (by first | omega | (simp only [List.length_append, List.length_cons, List.length_nil]; omega)) ?_; conv => whnf) | ((with_reducible refine branch_tt ?_); conv => whnf) | ((with_reducible refine branch_ff ?_); conv => whnf) | (with_reducible refine branch_not ?_)))
      refine idx_m (by omega) (by have : words.length = 6 := rfl; omega) fun x hx => ?_
      rw [Int.toNat_natCast] at hx
      (conv => whnf); (repeat (first | (refine arith_i ⟨by omega, by omega⟩ ?_; conv => whnf) | (refine need_i (by first | omega | (simp only [List.length_append, List.length_cons, List.length_nil]; omega)) ?_; conv => whnf) | ((with_reducible refine branch_tt ?_); conv => whnf) | ((with_reducible refine branch_ff ?_); conv => whnf) | (with_reducible refine branch_not ?_)))
      refine ⟨?_, trivial⟩
      (conv => whnf); (repeat (first | (refine arith_i ⟨by omega, by omega⟩ ?_; conv => whnf) | (refine need_i (by first | omega | (simp only [List.length_append, List.length_cons, List.length_nil]; omega)) ?_; conv => whnf) | ((with_reducible refine branch_tt ?_); conv => whnf) | ((with_reducible refine branch_ff ?_); conv => whnf) | (with_reducible refine branch_not ?_)))
      refine ⟨?_, trivial⟩
      (conv => whnf); (repeat (first | (refine arith_i ⟨by omega, by omega⟩ ?_; conv => whnf) | (refine need_i (by first | omega | (simp only [List.length_append, List.length_cons, List.length_nil]; omega)) ?_; conv => whnf) | ((with_reducible refine branch_tt ?_); conv => whnf) | ((with_reducible refine branch_ff ?_); conv => whnf) | (with_reducible refine branch_not ?_)))
      refine ⟨?_, trivial⟩
      (conv => whnf); (repeat (first | (refine arith_i ⟨by omega, by omega⟩ ?_; conv => whnf) | (refine need_i (by first | omega | (simp only [List.length_append, List.length_cons, List.length_nil]; omega)) ?_; conv => whnf) | ((with_reducible refine branch_tt ?_); conv => whnf) | ((with_reducible refine branch_ff ?_); conv => whnf) | (with_reducible refine branch_not ?_)))
      refine ⟨?_, trivial⟩
      (conv => whnf); (repeat (first | (refine arith_i ⟨by omega, by omega⟩ ?_; conv => whnf) | (refine need_i (by first | omega | (simp only [List.length_append, List.length_cons, List.length_nil]; omega)) ?_; conv => whnf) | ((with_reducible refine branch_tt ?_); conv => whnf) | ((with_reducible refine branch_ff ?_); conv => whnf) | (with_reducible refine branch_not ?_)))
      refine ⟨os ++ [x], baseO_snoc hO (by omega) hx, le_mk ⟨rfl, rfl, rfl, rfl, rfl, int_eq (by simp), trivial⟩ ⟨rfl, ?_, trivial⟩ rfl, by simp; omega⟩
      conv => lhs; whnf
      conv => lhs; arg 1; simp only [setRange, List.map, St.map, killF, sylO]
      simp [sylO, encS]
      rfl
    · clear h
      (conv => whnf); (repeat (first | (refine arith_i ⟨by omega, by omega⟩ ?_; conv => whnf) | (refine need_i (by first | omega | (simp only [List.length_append, List.length_cons, List.length_nil]; omega)) ?_; conv => whnf) | ((with_reducible refine branch_tt ?_); conv => whnf) | ((with_reducible refine branch_ff ?_); conv => whnf) | (with_reducible refine branch_not ?_)))
      refine loop_i (fun cs : List Cmp => BaseC cs) (fun cs => mkSt [(0, .tape), (1, .int .i64 n), (4, .ptr 4 0), (5, strs words), (6, .ptr 6 0), (9, .int .i64 cs.length)] [(4, syl0), (6, sylO ts os cs)] true) (fun cs => 3 - cs.length) [] ⟨by decide, nofun⟩ (le_mk ⟨rfl, rfl, rfl, rfl, rfl, rfl, trivial⟩ ⟨rfl, rfl, trivial⟩ rfl) ?_
      intro cs hC
      have L3 : (cs.map encCmp).length = cs.length := List.length_map ..
      have hC1 := hC.1
      (conv => whnf); (repeat (first | (refine arith_i ⟨by omega, by omega⟩ ?_; conv => whnf) | (refine need_i (by first | omega | (simp only [List.length_append, List.length_cons, List.length_nil]; omega)) ?_; conv => whnf) | ((with_reducible refine branch_tt ?_); conv => whnf) | ((with_reducible refine branch_ff ?_); conv => whnf) | (with_reducible refine branch_not ?_)))
      refine call_i (range_ok 0 3 (by omega) (by omega)) fun r hr => ?_
      obtain ⟨c, rfl, -, hc⟩ := hr
      replace hc := hc (by omega)
      (conv => whnf); (repeat (first | (refine arith_i ⟨by omega, by omega⟩ ?_; conv => whnf) | (refine need_i (by first | omega | (simp only [List.length_append, List.length_cons, List.length_nil]; omega)) ?_; conv => whnf) | ((with_reducible refine branch_tt ?_); conv => whnf) | ((with_reducible refine branch_ff ?_); conv => whnf) | (with_reducible refine branch_not ?_)))
      refine branch_d (fun h => ?_) (fun h => ?_)
      · (conv => whnf); (repeat (first | (refine arith_i ⟨by omega, by omega⟩ ?_; conv => whnf) | (refine need_i (by first | omega | (simp only [List.length_append, List.length_cons, List.length_nil]; omega)) ?_; conv => whnf) | ((with_reducible refine branch_tt ?_); conv => whnf) | ((with_reducible refine branch_ff ?_); conv => whnf) | (with_reducible refine branch_not ?_)))
        refine draw_i 16 (.take 0 (.take 1 (.take 2 (.take 3 (.take 7 (.take 10 (.alt 4 (.take 5 (.alt 6 (.alt 8 (.alt 9 (.alt 11 (.take 12 (.alt 13 (.alt 14 (.take 15 (.alt 16 .done .stop)) .stop) .stop)) .stop) .stop) .stop) (.alt 8 (.alt 6 (.alt 9 (.alt 11 (.take 12 (.alt 13 (.alt 14 (.take 15 (.alt 16 .done .stop)) .stop) .stop)) .stop) .stop) (.alt 9 (.alt 6 (.alt 11 (.take 12 (.alt 13 (.alt 14 (.take 15 (.alt 16 .done .stop)) .stop) .stop)) .stop) (.alt 11 (.alt 6 (.take 12 (.alt 13 (.alt 14 (.take 15 (.alt 16 .done .stop)) .stop) .stop)) .stop) .stop)) .stop)) .stop))) (.alt 8 (.alt 4 (.take 5 (.alt 6 (.alt 9 (.alt 11 (.take 12 (.alt 13 (.alt 14 (.take 15 (.alt 16 .done .stop)) .stop) .stop)) .stop) .stop) (.alt 9 (.alt 6 (.alt 11 (.take 12 (.alt 13 (.alt 14 (.take 15 (.alt 16 .done .stop)) .stop) .stop)) .stop) (.alt 11 (.alt 6 (.take 12 (.alt 13 (.alt 14 (.take 15 (.alt 16 .done .stop)) .stop) .stop)) .stop) .stop)) .stop))) .stop) .stop)))))))) (by decide +kernel) ?_
        (conv => whnf); (repeat (first | (refine arith_i ⟨by omega, by omega⟩ ?_; conv => whnf) | (refine need_i (by first | omega | (simp only [List.length_append, List.length_cons, List.length_nil]; omega)) ?_; conv => whnf) | ((with_reducible refine branch_tt ?_); conv => whnf) | ((with_reducible refine branch_ff ?_); conv => whnf) | (with_reducible refine branch_not ?_)))
        refine ⟨?_, ?_, trivial⟩
        · (conv => whnf); (repeat (first | (refine arith_i ⟨by omega, by omega⟩ ?_; conv => whnf) | (refine need_i (by first | omega | (simp only [List.length_append, List.length_cons, List.length_nil]; omega)) ?_; conv => whnf) | ((with_reducible refine branch_tt ?_); conv => whnf) | ((with_reducible refine branch_ff ?_); conv => whnf) | (with_reducible refine branch_not ?_)))
          refine call_e ((cut_ok cs.length 6 (by omega)).mono fun r h => h.trans (int_eq (cut_small (by omega)))) ?_
          (conv => whnf); (repeat (first | (refine arith_i ⟨by omega, by omega⟩ ?_; conv => whnf) | (refine need_i (by first | omega | (simp only [List.length_append, List.length_cons, List.length_nil]; omega)) ?_; conv => whnf) | ((with_reducible refine branch_tt ?_); conv => whnf) | ((with_reducible refine branch_ff ?_); conv => whnf) | (with_reducible refine branch_not ?_)))
          refine idx_m (by omega) (by have : words.length = 6 := rfl; omega) fun x hx => ?_
          rw [Int.toNat_natCast] at hx
          (conv => whnf); (repeat (first | (refine arith_i ⟨by omega, by omega⟩ ?_; conv => whnf) | (refine need_i (by first | omega | (simp only [List.length_append, List.length_cons, List.length_nil]; omega)) ?_; conv => whnf) | ((with_reducible refine branch_tt ?_); conv => whnf) | ((with_reducible refine branch_ff ?_); conv => whnf) | (with_reducible refine branch_not ?_)))
          refine ⟨?_, ?_, trivial⟩
          · (conv => whnf); (repeat (first | (refine arith_i ⟨by omega, by omega⟩ ?_; conv => whnf) | (refine need_i (by first | omega | (simp only [List.length_append, List.length_cons, List.length_nil]; omega)) ?_; conv => whnf) | ((with_reducible refine branch_tt ?_); conv => whnf) | ((with_reducible refine branch_ff ?_); conv => whnf) | (with_reducible refine branch_not ?_)))
            refine ⟨?_, trivial⟩
            (conv => whnf); (repeat (first | (refine arith_i ⟨by omega, by omega⟩ ?_; conv => whnf) | (refine need_i (by first | omega | (simp only [List.length_append, List.length_cons, List.length_nil]; omega)) ?_; conv => whnf) | ((with_reducible refine branch_tt ?_); conv => whnf) | ((with_reducible refine branch_ff ?_); conv => whnf) | (with_reducible refine branch_not ?_)))
            refine ⟨?_, trivial⟩
            (conv => whnf); (repeat (first | (refine arith_i ⟨by omega, by omega⟩ ?_; conv => whnf) | (refine need_i (by first | omega | (simp only [List.length_append, List.length_cons, List.length_nil]; omega)) ?_; conv => whnf) | ((with_reducible refine branch_tt ?_); conv => whnf) | ((with_reducible refine branch_ff ?_); conv => whnf) | (with_reducible refine branch_not ?_)))
            refine call_i (pick_ok [0, 1, 2, 30, 40, 1000] (by decide) (by decide)) fun r hr => ?_
            obtain ⟨y, rfl, hy⟩ := hr
            have hy2 : 0 ≤ y ∧ y ≤ 1000 := by simp at hy; omega
            (conv => whnf); (repeat (first | (refine arith_i ⟨by omega, by omega⟩ ?_; conv => whnf) | (refine need_i (by first | omega | (simp only [List.length_append, List.length_cons, List.length_nil]; omega)) ?_; conv => whnf) | ((with_reducible refine branch_tt ?_); conv => whnf) | ((with_reducible refine branch_ff ?_); conv => whnf) | (with_reducible refine branch_not ?_)))
            refine ⟨?_, trivial⟩
            (conv => whnf); (repeat (first | (refine arith_i ⟨by omega, by omega⟩ ?_; conv => whnf) | (refine need_i (by first | omega | (simp only [List.length_append, List.length_cons, List.length_nil]; omega)) ?_; conv => whnf) | ((with_reducible refine branch_tt ?_); conv => whnf) | ((with_reducible refine branch_ff ?_); conv => whnf) | (with_reducible refine branch_not ?_)))
            refine call_i (range_ok 1 200 (by omega) (by omega)) fun r hr => ?_
            obtain ⟨z, rfl, -, hz⟩ := hr
            replace hz := hz (by omega)
            (conv => whnf); (repeat (first | (refine arith_i ⟨by omega, by omega⟩ ?_; conv => whnf) | (refine need_i (by first | omega | (simp only [List.length_append, List.length_cons, List.length_nil]; omega)) ?_; conv => whnf) | ((with_reducible refine branch_tt ?_); conv => whnf) | ((with_reducible refine branch_ff ?_); conv => whnf) | (with_reducible refine branch_not ?_)))
            refine ⟨?_, trivial⟩
            (conv => whnf); (repeat (first | (refine arith_i ⟨by omega, by omega⟩ ?_; conv => whnf) | (refine need_i (by first | omega | (simp only [List.length_append, List.length_cons, List.length_nil]; omega)) ?_; conv => whnf) | ((with_reducible refine branch_tt ?_); conv => whnf) | ((with_reducible refine branch_ff ?_); conv => whnf) | (with_reducible refine branch_not ?_)))
            refine ⟨?_, trivial⟩
            (conv => whnf); (repeat (first | (refine arith_i ⟨by omega, by omega⟩ ?_; conv => whnf) | (refine need_i (by first | omega | (simp only [List.length_append, List.length_cons, List.length_nil]; omega)) ?_; conv => whnf) | ((with_reducible refine branch_tt ?_); conv => whnf) | ((with_reducible refine branch_ff ?_); conv => whnf) | (with_reducible refine branch_not ?_)))
            refine ⟨?_, trivial⟩
            (conv => whnf); (repeat (first | (refine arith_i ⟨by omega, by omega⟩ ?_; conv => whnf) | (refine need_i (by first | omega | (simp only [List.length_append, List.length_cons, List.length_nil]; omega)) ?_; conv => whnf) | ((with_reducible refine branch_tt ?_); conv => whnf) | ((with_reducible refine branch_ff ?_); conv => whnf) | (with_reducible refine branch_not ?_)))
            refine ⟨cs ++ [⟨x, y, z⟩], baseC_snoc hC (by omega) hx (by simp [cmpB]; omega), le_mk ⟨rfl, rfl, rfl, rfl, rfl, int_eq (by simp), trivial⟩ ⟨rfl, ?_, trivial⟩ rfl, by simp; omega⟩
            conv => lhs; whnf
            conv => lhs; arg 1; simp only [setRange, List.map, St.map, killF, sylO]
            simp [sylO, encCmp]
            rfl
          · (conv => whnf); (repeat (first | (refine arith_i ⟨by omega, by omega⟩ ?_; conv => whnf) | (refine need_i (by first | omega | (simp only [List.length_append, List.length_cons, List.length_nil]; omega)) ?_; conv => whnf) | ((with_reducible refine branch_tt ?_); conv => whnf) | ((with_reducible refine branch_ff ?_); conv => whnf) | (with_reducible refine branch_not ?_)))
            refine ⟨?_, ?_, trivial⟩
            · (conv => whnf); (repeat (first | (refine arith_i ⟨by omega, by omega⟩ ?_; conv => whnf) | (refine need_i (by first | omega | (simp only [List.length_append, List.length_cons, List.length_nil]; omega)) ?_; conv => whnf) | ((with_reducible refine branch_tt ?_); conv => whnf) | ((with_reducible refine branch_ff ?_); conv => whnf) | (with_reducible refine branch_not ?_)))
              refine ⟨?_, trivial⟩
              (conv => whnf); (repeat (first | (refine arith_i ⟨by omega, by omega⟩ ?_; conv => whnf) | (refine need_i (by first | omega | (simp only [List.length_append, List.length_cons, List.length_nil]; omega)) ?_; conv => whnf) | ((with_reducible refine branch_tt ?_); conv => whnf) | ((with_reducible refine branch_ff ?_); conv => whnf) | (with_reducible refine branch_not ?_)))
              refine call_i (pick_ok [0, 1, 2, 30, 40, 1000] (by decide) (by decide)) fun r hr => ?_
              obtain ⟨y, rfl, hy⟩ := hr
              have hy2 : 0 ≤ y ∧ y ≤ 1000 := by simp at hy; omega
              (conv => whnf); (repeat (first | (refine arith_i ⟨by omega, by omega⟩ ?_; conv => whnf) | (refine need_i (by first | omega | (simp only [List.length_append, List.length_cons, List.length_nil]; omega)) ?_; conv => whnf) | ((with_reducible refine branch_tt ?_); conv => whnf) | ((with_reducible refine branch_ff ?_); conv => whnf) | (with_reducible refine branch_not ?_)))
              refine ⟨?_, trivial⟩
              (conv => whnf); (repeat (first | (refine arith_i ⟨by omega, by omega⟩ ?_; conv => whnf) | (refine need_i (by first | omega | (simp only [List.length_append, List.length_cons, List.length_nil]; omega)) ?_; conv => whnf) | ((with_reducible refine branch_tt ?_); conv => whnf) | ((with_reducible refine branch_ff ?_); conv => whnf) | (with_reducible refine branch_not ?_)))
              refine call_i (range_ok 1 200 (by omega) (by omega)) fun r hr => ?_
              obtain ⟨z, rfl, -, hz⟩ := hr
              replace hz := hz (by omega)
              (conv => whnf); (repeat (first | (refine arith_i ⟨by omega, by omega⟩ ?_; conv => whnf) | (refine need_i (by first | omega | (simp only [List.length_append, List.length_cons, List.length_nil]; omega)) ?_; conv => whnf) | ((with_reducible refine branch_tt ?_); conv => whnf) | ((with_reducible refine branch_ff ?_); conv => whnf) | (with_reducible refine branch_not ?_)))
              refine ⟨?_, trivial⟩
              (conv => whnf); (repeat (first | (refine arith_i ⟨by omega, by omega⟩ ?_; conv => whnf) | (refine need_i (by first | omega | (simp only [List.length_append, List.length_cons, List.length_nil]; omega)) ?_; conv => whnf) | ((with_reducible refine branch_tt ?_); conv => whnf) | ((with_reducible refine branch_ff ?_); conv => whnf) | (with_reducible refine branch_not ?_)))
              refine ⟨?_, trivial⟩
              (conv => whnf); (repeat (first | (refine arith_i ⟨by omega, by omega⟩ ?_; conv => whnf) | (refine need_i (by first | omega | (simp only [List.length_append, List.length_cons, List.length_nil]; omega)) ?_; conv => whnf) | ((with_reducible refine branch_tt ?_); conv => whnf) | ((with_reducible refine branch_ff ?_); conv => whnf) | (with_reducible refine branch_not ?_)))
              refine ⟨?_, trivial⟩
              (conv => whnf); (repeat (first | (refine arith_i ⟨by omega, by omega⟩ ?_; conv => whnf) | (refine need_i (by first | omega | (simp only [List.length_append, List.length_cons, List.length_nil]; omega)) ?_; conv => whnf) | ((with_reducible refine branch_tt ?_); conv => whnf) | ((with_reducible refine branch_ff ?_); conv => whnf) | (with_reducible refine branch_not ?_)))
              refine ⟨cs ++ [⟨x, y, z⟩], baseC_snoc hC (by omega) hx (by simp [cmpB]; omega), le_mk ⟨rfl, rfl, rfl, rfl, rfl, int_eq (by simp), trivial⟩ ⟨rfl, ?_, trivial⟩ rfl, by simp; omega⟩
              conv => lhs; whnf
              conv => lhs; arg 1; simp only [setRange, List.map, St.map, killF, sylO]
              simp [sylO, encCmp]
              rfl
            · (conv => whnf); (repeat (first | (refine arith_i ⟨by omega, by omega⟩ ?_; conv => whnf) | (refine need_i (by first | omega | (simp only [List.length_append, List.length_cons, List.length_nil]; omega)) ?_; conv => whnf) | ((with_reducible refine branch_tt ?_); conv => whnf) | ((with_reducible refine branch_ff ?_); conv => whnf) | (with_reducible refine branch_not ?_)))
              refine call_i (pick_ok [0, 1, 2, 30, 40, 1000] (by decide) (by decide)) fun r hr => ?_
              obtain ⟨y, rfl, hy⟩ := hr
              have hy2 : 0 ≤ y ∧ y ≤ 1000 := by simp at hy; omega
              (conv => whnf); (repeat (first | (refine arith_i ⟨by omega, by omega⟩ ?_; conv => whnf) | (refine need_i (by first | omega | (simp only [List.length_append, List.length_cons, List.length_nil]; omega)) ?_; conv => whnf) | ((with_reducible refine branch_tt ?_); conv => whnf) | ((with_reducible refine branch_ff ?_); conv => whnf) | (with_reducible refine branch_not ?_)))
              refine ⟨?_, ?_, trivial⟩
              · (conv => whnf); (repeat (first | (refine arith_i ⟨by omega, by omega⟩ ?_; conv => whnf) | (refine need_i (by first | omega | (simp only [List.length_append, List.length_cons, List.length_nil]; omega)) ?_; conv => whnf) | ((with_reducible refine branch_tt ?_); conv => whnf) | ((with_reducible refine branch_ff ?_); conv => whnf) | (with_reducible refine branch_not ?_)))
                refine ⟨?_, trivial⟩
                (conv => whnf); (repeat (first | (refine arith_i ⟨by omega, by omega⟩ ?_; conv => whnf) | (refine need_i (by first | omega | (simp only [List.length_append, List.length_cons, List.length_nil]; omega)) ?_; conv => whnf) | ((with_reducible refine branch_tt ?_); conv => whnf) | ((with_reducible refine branch_ff ?_); conv => whnf) | (with_reducible refine branch_not ?_)))
                refine call_i (range_ok 1 200 (by omega) (by omega)) fun r hr => ?_
                obtain ⟨z, rfl, -, hz⟩ := hr
                replace hz := hz (by omega)
                (conv => whnf); (repeat (first | (refine arith_i ⟨by omega, by omega⟩ ?_; conv => whnf) | (refine need_i (by first | omega | (simp only [List.length_append, List.length_cons, List.length_nil]; omega)) ?_; conv => whnf) | ((with_reducible refine branch_tt ?_); conv => whnf) | ((with_reducible refine branch_ff ?_); conv => whnf) | (with_reducible refine branch_not ?_)))
                refine ⟨?_, trivial⟩
                (conv => whnf); (repeat (first | (refine arith_i ⟨by omega, by omega⟩ ?_; conv => whnf) | (refine need_i (by first | omega | (simp only [List.length_append, List.length_cons, List.length_nil]; omega)) ?_; conv => whnf) | ((with_reducible refine branch_tt ?_); conv => whnf) | ((with_reducible refine branch_ff ?_); conv => whnf) | (with_reducible refine branch_not ?_)))
                refine ⟨?_, trivial⟩
                (conv => whnf); (repeat (first | (refine arith_i ⟨by omega, by omega⟩ ?_; conv => whnf) | (refine need_i (by first | omega | (simp only [List.length_append, List.length_cons, List.length_nil]; omega)) ?_; conv => whnf) | ((with_reducible refine branch_tt ?_); conv => whnf) | ((with_reducible refine branch_ff ?_); conv => whnf) | (with_reducible refine branch_not ?_)))
                refine ⟨?_, trivial⟩
                (conv => whnf); (repeat (first | (refine arith_i ⟨by omega, by omega⟩ ?_; conv => whnf) | (refine need_i (by first | omega | (simp only [List.length_append, List.length_cons, List.length_nil]; omega)) ?_; conv => whnf) | ((with_reducible refine branch_tt ?_); conv => whnf) | ((with_reducible refine branch_ff ?_); conv => whnf) | (with_reducible refine branch_not ?_)))
                refine ⟨cs ++ [⟨x, y, z⟩], baseC_snoc hC (by omega) hx (by simp [cmpB]; omega), le_mk ⟨rfl, rfl, rfl, rfl, rfl, int_eq (by simp), trivial⟩ ⟨rfl, ?_, trivial⟩ rfl, by simp; omega⟩
                conv => lhs; whnf
                conv => lhs; arg 1; simp only [setRange, List.map, St.map, killF, sylO]
                simp [sylO, encCmp]
                rfl
              · (conv => whnf); (repeat (first | (refine arith_i ⟨by omega, by omega⟩ ?_; conv => whnf) | (refine need_i (by first | omega | (simp only [List.length_append, List.length_cons, List.length_nil]; omega)) ?_; conv => whnf) | ((with_reducible refine branch_tt ?_); conv => whnf) | ((with_reducible refine branch_ff ?_); conv => whnf) | (with_reducible refine branch_not ?_)))
                refine call_i (range_ok 1 200 (by omega) (by omega)) fun r hr => ?_
                obtain ⟨z, rfl, -, hz⟩ := hr
                replace hz := hz (by omega)
                (conv => whnf); (repeat (first | (refine arith_i ⟨by omega, by omega⟩ ?_; conv => whnf) | (refine need_i (by first | omega | (simp only [List.length_append, List.length_cons, List.length_nil]; omega)) ?_; conv => whnf) | ((with_reducible refine branch_tt ?_); conv => whnf) | ((with_reducible refine branch_ff ?_); conv => whnf) | (with_reducible refine branch_not ?_)))
                refine ⟨?_, trivial⟩
                (conv => whnf); (repeat (first | (refine arith_i ⟨by omega, by omega⟩ ?_; conv => whnf) | (refine need_i (by first | omega | (simp only [List.length_append, List.length_cons, List.length_nil]; omega)) ?_; conv => whnf) | ((with_reducible refine branch_tt ?_); conv => whnf) | ((with_reducible refine branch_ff ?_); conv => whnf) | (with_reducible refine branch_not ?_)))
                refine ⟨?_, trivial⟩
                (conv => whnf); (repeat (first | (refine arith_i ⟨by omega, by omega⟩ ?_; conv => whnf) | (refine need_i (by first | omega | (simp only [List.length_append, List.length_cons, List.length_nil]; omega)) ?_; conv => whnf) | ((with_reducible refine branch_tt ?_); conv => whnf) | ((with_reducible refine branch_ff ?_); conv => whnf) | (with_reducible refine branch_not ?_)))
                refine ⟨?_, trivial⟩
                (conv => whnf); (repeat (first | (refine arith_i ⟨by omega, by omega⟩ ?_; conv => whnf) | (refine need_i (by first | omega | (simp only [List.length_append, List.length_cons, List.length_nil]; omega)) ?_; conv => whnf) | ((with_reducible refine branch_tt ?_); conv => whnf) | ((with_reducible refine branch_ff ?_); conv => whnf) | (with_reducible refine branch_not ?_)))
                refine ⟨?_, trivial⟩
                (conv => whnf); (repeat (first | (refine arith_i ⟨by omega, by omega⟩ ?_; conv => whnf) | (refine need_i (by first | omega | (simp only [List.length_append, List.length_cons, List.length_nil]; omega)) ?_; conv => whnf) | ((with_reducible refine branch_tt ?_); conv => whnf) | ((with_reducible refine branch_ff ?_); conv => whnf) | (with_reducible refine branch_not ?_)))
                refine ⟨cs ++ [⟨x, y, z⟩], baseC_snoc hC (by omega) hx (by simp [cmpB]; omega), le_mk ⟨rfl, rfl, rfl, rfl, rfl, int_eq (by simp), trivial⟩ ⟨rfl, ?_, trivial⟩ rfl, by simp; omega⟩
                conv => lhs; whnf
                conv => lhs; arg 1; simp only [setRange, List.map, St.map, killF, sylO]
                simp [sylO, encCmp]
                rfl
        · (conv => whnf); (repeat (first | (refine arith_i ⟨by omega, by omega⟩ ?_; conv => whnf) | (refine need_i (by first | omega | (simp only [List.length_append, List.length_cons, List.length_nil]; omega)) ?_; conv => whnf) | ((with_reducible refine branch_tt ?_); conv => whnf) | ((with_reducible refine branch_ff ?_); conv => whnf) | (with_reducible refine branch_not ?_)))
          refine ⟨?_, trivial⟩
          (conv => whnf); (repeat (first | (refine arith_i ⟨by omega, by omega⟩ ?_; conv => whnf) | (refine need_i (by first | omega | (simp only [List.length_append, List.length_cons, List.length_nil]; omega)) ?_; conv => whnf) | ((with_reducible refine branch_tt ?_); conv => whnf) | ((with_reducible refine branch_ff ?_); conv => whnf) | (with_reducible refine branch_not ?_)))
          refine call_e ((cut_ok cs.length 6 (by omega)).mono fun r h => h.trans (int_eq (cut_small (by omega)))) ?_
          (conv => whnf); (repeat (first | (refine arith_i ⟨by omega, by omega⟩ ?_; conv => whnf) | (refine need_i (by first | omega | (simp only [List.length_append, List.length_cons, List.length_nil]; omega)) ?_; conv => whnf) | ((with_reducible refine branch_tt ?_); conv => whnf) | ((with_reducible refine branch_ff ?_); conv => whnf) | (with_reducible refine branch_not ?_)))
          refine idx_m (by omega) (by have : words.length = 6 := rfl; omega) fun x hx => ?_
          rw [Int.toNat_natCast] at hx
          (conv => whnf); (repeat (first | (refine arith_i ⟨by omega, by omega⟩ ?_; conv => whnf) | (refine need_i (by first | omega | (simp only [List.length_append, List.length_cons, List.length_nil]; omega)) ?_; conv => whnf) | ((with_reducible refine branch_tt ?_); conv => whnf) | ((with_reducible refine branch_ff ?_); conv => whnf) | (with_reducible refine branch_not ?_)))
          refine ⟨?_, ?_, trivial⟩
          · (conv => whnf); (repeat (first | (refine arith_i ⟨by omega, by omega⟩ ?_; conv => whnf) | (refine need_i (by first | omega | (simp only [List.length_append, List.length_cons, List.length_nil]; omega)) ?_; conv => whnf) | ((with_reducible refine branch_tt ?_); conv => whnf) | ((with_reducible refine branch_ff ?_); conv => whnf) | (with_reducible refine branch_not ?_)))
            refine ⟨?_, trivial⟩
            (conv => whnf); (repeat (first | (refine arith_i ⟨by omega, by omega⟩ ?_; conv => whnf) | (refine need_i (by first | omega | (simp only [List.length_append, List.length_cons, List.length_nil]; omega)) ?_; conv => whnf) | ((with_reducible refine branch_tt ?_); conv => whnf) | ((with_reducible refine branch_ff ?_); conv => whnf) | (with_reducible refine branch_not ?_)))
            refine call_i (pick_ok [0, 1, 2, 30, 40, 1000] (by decide) (by decide)) fun r hr => ?_
            obtain ⟨y, rfl, hy⟩ := hr
            have hy2 : 0 ≤ y ∧ y ≤ 1000 := by simp at hy; omega
            (conv => whnf); (repeat (first | (refine arith_i ⟨by omega, by omega⟩ ?_; conv => whnf) | (refine need_i (by first | omega | (simp only [List.length_append, List.length_cons, List.length_nil]; omega)) ?_; conv => whnf) | ((with_reducible refine branch_tt ?_); conv => whnf) | ((with_reducible refine branch_ff ?_); conv => whnf) | (with_reducible refine branch_not ?_)))
            refine ⟨?_, trivial⟩
            (conv => whnf); (repeat (first | (refine arith_i ⟨by omega, by omega⟩ ?_; conv => whnf) | (refine need_i (by first | omega | (simp only [List.length_append, List.length_cons, List.length_nil]; omega)) ?_; conv => whnf) | ((with_reducible refine branch_tt ?_); conv => whnf) | ((with_reducible refine branch_ff ?_); conv => whnf) | (with_reducible refine branch_not ?_)))
            refine call_i (range_ok 1 200 (by omega) (by omega)) fun r hr => ?_
            obtain ⟨z, rfl, -, hz⟩ := hr
            replace hz := hz (by omega)
            (conv => whnf); (repeat (first | (refine arith_i ⟨by omega, by omega⟩ ?_; conv => whnf) | (refine need_i (by first | omega | (simp only [List.length_append, List.length_cons, List.length_nil]; omega)) ?_; conv => whnf) | ((with_reducible refine branch_tt ?_); conv => whnf) | ((with_reducible refine branch_ff ?_); conv => whnf) | (with_reducible refine branch_not ?_)))
            refine ⟨?_, trivial⟩
            (conv => whnf); (repeat (first | (refine arith_i ⟨by omega, by omega⟩ ?_; conv => whnf) | (refine need_i (by first | omega | (simp only [List.length_append, List.length_cons, List.length_nil]; omega)) ?_; conv => whnf) | ((with_reducible refine branch_tt ?_); conv => whnf) | ((with_reducible refine branch_ff ?_); conv => whnf) | (with_reducible refine branch_not ?_)))
            refine ⟨?_, trivial⟩
            (conv => whnf); (repeat (first | (refine arith_i ⟨by omega, by omega⟩ ?_; conv => whnf) | (refine need_i (by first | omega | (simp only [List.length_append, List.length_cons, List.length_nil]; omega)) ?_; conv => whnf) | ((with_reducible refine branch_tt ?_); conv => whnf) | ((with_reducible refine branch_ff ?_); conv => whnf) | (with_reducible refine branch_not ?_)))
            refine ⟨?_, trivial⟩
            (conv => whnf); (repeat (first | (refine arith_i ⟨by omega, by omega⟩ ?_; conv => whnf) | (refine need_i (by first | omega | (simp only [List.length_append, List.length_cons, List.length_nil]; omega)) ?_; conv => whnf) | ((with_reducible refine branch_tt ?_); conv => whnf) | ((with_reducible refine branch_ff ?_); conv => whnf) | (with_reducible refine branch_not ?_)))
            refine ⟨cs ++ [⟨x, y, z⟩], baseC_snoc hC (by omega) hx (by simp [cmpB]; omega), le_mk ⟨rfl, rfl, rfl, rfl, rfl, int_eq (by simp), trivial⟩ ⟨rfl, ?_, trivial⟩ rfl, by simp; omega⟩
            conv => lhs; whnf
            conv => lhs; arg 1; simp only [setRange, List.map, St.map, killF, sylO]
            simp [sylO, encCmp]
            rfl
          · (conv => whnf); (repeat (first | (refine arith_i ⟨by omega, by omega⟩ ?_; conv => whnf) | (refine need_i (by first | omega | (simp only [List.length_append, List.length_cons, List.length_nil]; omega)) ?_; conv => whnf) | ((with_reducible refine branch_tt ?_); conv => whnf) | ((with_reducible refine branch_ff ?_); conv => whnf) | (with_reducible refine branch_not ?_)))
            refine call_i (pick_ok [0, 1, 2, 30, 40, 1000] (by decide) (by decide)) fun r hr => ?_
            obtain ⟨y, rfl, hy⟩ := hr
            have hy2 : 0 ≤ y ∧ y ≤ 1000 := by simp at hy; omega
            (conv => whnf); (repeat (first | (refine arith_i ⟨by omega, by omega⟩ ?_; conv => whnf) | (refine need_i (by first | omega | (simp only [List.length_append, List.length_cons, List.length_nil]; omega)) ?_; conv => whnf) | ((with_reducible refine branch_tt ?_); conv => whnf) | ((with_reducible refine branch_ff ?_); conv => whnf) | (with_reducible refine branch_not ?_)))
            refine ⟨?_, ?_, trivial⟩
            · (conv => whnf); (repeat (first | (refine arith_i ⟨by omega, by omega⟩ ?_; conv => whnf) | (refine need_i (by first | omega | (simp only [List.length_append, List.length_cons, List.length_nil]; omega)) ?_; conv => whnf) | ((with_reducible refine branch_tt ?_); conv => whnf) | ((with_reducible refine branch_ff ?_); conv => whnf) | (with_reducible refine branch_not ?_)))
              refine ⟨?_, trivial⟩
              (conv => whnf); (repeat (first | (refine arith_i ⟨by omega, by omega⟩ ?_; conv => whnf) | (refine need_i (by first | omega | (simp only [List.length_append, List.length_cons, List.length_nil]; omega)) ?_; conv => whnf) | ((with_reducible refine branch_tt ?_); conv => whnf) | ((with_reducible refine branch_ff ?_); conv => whnf) | (with_reducible refine branch_not ?_)))
              refine call_i (range_ok 1 200 (by omega) (by omega)) fun r hr => ?_
              obtain ⟨z, rfl, -, hz⟩ := hr
              replace hz := hz (by omega)
              (conv => whnf); (repeat (first | (refine arith_i ⟨by omega, by omega⟩ ?_; conv => whnf) | (refine need_i (by first | omega | (simp only [List.length_append, List.length_cons, List.length_nil]; omega)) ?_; conv => whnf) | ((with_reducible refine branch_tt ?_); conv => whnf) | ((with_reducible refine branch_ff ?_); conv => whnf) | (with_reducible refine branch_not ?_)))
              refine ⟨?_, trivial⟩
              (conv => whnf); (repeat (first | (refine arith_i ⟨by omega, by omega⟩ ?_; conv => whnf) | (refine need_i (by first | omega | (simp only [List.length_append, List.length_cons, List.length_nil]; omega)) ?_; conv => whnf) | ((with_reducible refine branch_tt ?_); conv => whnf) | ((with_reducible refine branch_ff ?_); conv => whnf) | (with_reducible refine branch_not ?_)))
              refine ⟨?_, trivial⟩
              (conv => whnf); (repeat (first | (refine arith_i ⟨by omega, by omega⟩ ?_; conv => whnf) | (refine need_i (by first | omega | (simp only [List.length_append, List.length_cons, List.length_nil]; omega)) ?_; conv => whnf) | ((with_reducible refine branch_tt ?_); conv => whnf) | ((with_reducible refine branch_ff ?_); conv => whnf) | (with_reducible refine branch_not ?_)))
              refine ⟨?_, trivial⟩
              (conv => whnf); (repeat (first | (refine arith_i ⟨by omega, by omega⟩ ?_; conv => whnf) | (refine need_i (by first | omega | (simp only [List.length_append, List.length_cons, List.length_nil]; omega)) ?_; conv => whnf) | ((with_reducible refine branch_tt ?_); conv => whnf) | ((with_reducible refine branch_ff ?_); conv => whnf) | (with_reducible refine branch_not ?_)))
              refine ⟨cs ++ [⟨x, y, z⟩], baseC_snoc hC (by omega) hx (by simp [cmpB]; omega), le_mk ⟨rfl, rfl, rfl, rfl, rfl, int_eq (by simp), trivial⟩ ⟨rfl, ?_, trivial⟩ rfl, by simp; omega⟩
              conv => lhs; whnf
              conv => lhs; arg 1; simp only [setRange, List.map, St.map, killF, sylO]
              simp [sylO, encCmp]
              rfl
            · (conv => whnf); (repeat (first | (refine arith_i ⟨by omega, by omega⟩ ?_; conv => whnf) | (refine need_i (by first | omega | (simp only [List.length_append, List.length_cons, List.length_nil]; omega)) ?_; conv => whnf) | ((with_reducible refine branch_tt ?_); conv => whnf) | ((with_reducible refine branch_ff ?_); conv => whnf) | (with_reducible refine branch_not ?_)))
              refine call_i (range_ok 1 200 (by omega) (by omega)) fun r hr => ?_
              obtain ⟨z, rfl, -, hz⟩ := hr
              replace hz := hz (by omega)
              (conv => whnf); (repeat (first | (refine arith_i ⟨by omega, by omega⟩ ?_; conv => whnf) | (refine need_i (by first | omega | (simp only [List.length_append, List.length_cons, List.length_nil]; omega)) ?_; conv => whnf) | ((with_reducible refine branch_tt ?_); conv => whnf) | ((with_reducible refine branch_ff ?_); conv => whnf) | (with_reducible refine branch_not ?_)))
              refine ⟨?_, trivial⟩
              (conv => whnf); (repeat (first | (refine arith_i ⟨by omega, by omega⟩ ?_; conv => whnf) | (refine need_i (by first | omega | (simp only [List.length_append, List.length_cons, List.length_nil]; omega)) ?_; conv => whnf) | ((with_reducible refine branch_tt ?_); conv => whnf) | ((with_reducible refine branch_ff ?_); conv => whnf) | (with_reducible refine branch_not ?_)))
              refine ⟨?_, trivial⟩
              (conv => whnf); (repeat (first | (refine arith_i ⟨by omega, by omega⟩ ?_; conv => whnf) | (refine need_i (by first | omega | (simp only [List.length_append, List.length_cons, List.length_nil]; omega)) ?_; conv => whnf) | ((with_reducible refine branch_tt ?_); conv => whnf) | ((with_reducible refine branch_ff ?_); conv => whnf) | (with_reducible refine branch_not ?_)))
              refine ⟨?_, trivial⟩
              (conv => whnf); (repeat (first | (refine arith_i ⟨by omega, by omega⟩ ?_; conv => whnf) | (refine need_i (by first | omega | (simp only [List.length_append, List.length_cons, List.length_nil]; omega)) ?_; conv => whnf) | ((with_reducible refine branch_tt ?_); conv => whnf) | ((with_reducible refine branch_ff ?_); conv => whnf) | (with_reducible refine branch_not ?_)))
              refine ⟨?_, trivial⟩
              (conv => whnf); (repeat (first | (refine arith_i ⟨by omega, by omega⟩ ?_; conv => whnf) | (refine need_i (by first | omega | (simp only [List.length_append, List.length_cons, List.length_nil]; omega)) ?_; conv => whnf) | ((with_reducible refine branch_tt ?_); conv => whnf) | ((with_reducible refine branch_ff ?_); conv => whnf) | (with_reducible refine branch_not ?_)))
              refine ⟨cs ++ [⟨x, y, z⟩], baseC_snoc hC (by omega) hx (by simp [cmpB]; omega), le_mk ⟨rfl, rfl, rfl, rfl, rfl, int_eq (by simp), trivial⟩ ⟨rfl, ?_, trivial⟩ rfl, by simp; omega⟩
              conv => lhs; whnf
              conv => lhs; arg 1; simp only [setRange, List.map, St.map, killF, sylO]
              simp [sylO, encCmp]
              rfl
      · clear h
        (conv => whnf); (repeat (first | (refine arith_i ⟨by omega, by omega⟩ ?_; conv => whnf) | (refine need_i (by first | omega | (simp only [List.length_append, List.length_cons, List.length_nil]; omega)) ?_; conv => whnf) | ((with_reducible refine branch_tt ?_); conv => whnf) | ((with_reducible refine branch_ff ?_); conv => whnf) | (with_reducible refine branch_not ?_)))
        refine branch_d (fun g => ?_) (fun g => ?_)
        · (conv => whnf); (repeat (first | (refine arith_i ⟨by omega, by omega⟩ ?_; conv => whnf) | (refine need_i (by first | omega | (simp only [List.length_append, List.length_cons, List.length_nil]; omega)) ?_; conv => whnf) | ((with_reducible refine branch_tt ?_); conv => whnf) | ((with_reducible refine branch_ff ?_); conv => whnf) | (with_reducible refine branch_not ?_)))
          refine call_i (one_ok n (by omega)) fun r hr => ?_
          obtain ⟨bb, rfl⟩ := hr
          (conv => whnf); (repeat (first | (refine arith_i ⟨by omega, by omega⟩ ?_; conv => whnf) | (refine need_i (by first | omega | (simp only [List.length_append, List.length_cons, List.length_nil]; omega)) ?_; conv => whnf) | ((with_reducible refine branch_tt ?_); conv => whnf) | ((with_reducible refine branch_ff ?_); conv => whnf) | (with_reducible refine branch_not ?_)))
          cases bb with
          | false =>
            (conv => whnf); (repeat (first | (refine arith_i ⟨by omega, by omega⟩ ?_; conv => whnf) | (refine need_i (by first | omega | (simp only [List.length_append, List.length_cons, List.length_nil]; omega)) ?_; conv => whnf) | ((with_reducible refine branch_tt ?_); conv => whnf) | ((with_reducible refine branch_ff ?_); conv => whnf) | (with_reducible refine branch_not ?_)))
            exact syl_ret ts os cs rfl (by omega) (by omega) (by omega) fun _ => ⟨hT, hO, hC⟩
          | true =>
            (conv => whnf); (repeat (first | (refine arith_i ⟨by omega, by omega⟩ ?_; conv => whnf) | (refine need_i (by first | omega | (simp only [List.length_append, List.length_cons, List.length_nil]; omega)) ?_; conv => whnf) | ((with_reducible refine branch_tt ?_); conv => whnf) | ((with_reducible refine branch_ff ?_); conv => whnf) | (with_reducible refine branch_not ?_)))
            refine call_i (next_ok 6 (by omega)) fun r hr => ?_
            obtain ⟨x, rfl, -, hx⟩ := hr
            replace hx := hx (by omega)
            (conv => whnf); (repeat (first | (refine arith_i ⟨by omega, by omega⟩ ?_; conv => whnf) | (refine need_i (by first | omega | (simp only [List.length_append, List.length_cons, List.length_nil]; omega)) ?_; conv => whnf) | ((with_reducible refine branch_tt ?_); conv => whnf) | ((with_reducible refine branch_ff ?_); conv => whnf) | (with_reducible refine branch_not ?_)))
            refine branch_e (fun e0 => ?_) (fun e0 => ?_)
            · (conv => whnf); (repeat (first | (refine arith_i ⟨by omega, by omega⟩ ?_; conv => whnf) | (refine need_i (by first | omega | (simp only [List.length_append, List.length_cons, List.length_nil]; omega)) ?_; conv => whnf) | ((with_reducible refine branch_tt ?_); conv => whnf) | ((with_reducible refine branch_ff ?_); conv => whnf) | (with_reducible refine branch_not ?_)))
              refine syl_ret (ts ++ [⟨⟨#[110, 117, 109, 98, 101, 114]⟩, -1⟩]) os cs ?_ (by simp; omega) (by omega) (by omega) (fun e => by omega)
              simp [sylO, encTpc]
              rfl
            · (conv => whnf); (repeat (first | (refine arith_i ⟨by omega, by omega⟩ ?_; conv => whnf) | (refine need_i (by first | omega | (simp only [List.length_append, List.length_cons, List.length_nil]; omega)) ?_; conv => whnf) | ((with_reducible refine branch_tt ?_); conv => whnf) | ((with_reducible refine branch_ff ?_); conv => whnf) | (with_reducible refine branch_not ?_)))
              refine branch_e (fun e1 => ?_) (fun e1 => ?_)
              · (conv => whnf); (repeat (first | (refine arith_i ⟨by omega, by omega⟩ ?_; conv => whnf) | (refine need_i (by first | omega | (simp only [List.length_append, List.length_cons, List.length_nil]; omega)) ?_; conv => whnf) | ((with_reducible refine branch_tt ?_); conv => whnf) | ((with_reducible refine branch_ff ?_); conv => whnf) | (with_reducible refine branch_not ?_)))
                refine draw_i 8 (.take 0 (.take 1 (.take 2 (.alt 3 (.take 4 (.alt 5 (.alt 6 (.take 7 (.alt 8 .done .stop)) .stop) .stop)) .stop)))) (by decide +kernel) ?_
                (conv => whnf); (repeat (first | (refine arith_i ⟨by omega, by omega⟩ ?_; conv => whnf) | (refine need_i (by first | omega | (simp only [List.length_append, List.length_cons, List.length_nil]; omega)) ?_; conv => whnf) | ((with_reducible refine branch_tt ?_); conv => whnf) | ((with_reducible refine branch_ff ?_); conv => whnf) | (with_reducible refine branch_not ?_)))
                refine ⟨?_, trivial⟩
                (conv => whnf); (repeat (first | (refine arith_i ⟨by omega, by omega⟩ ?_; conv => whnf) | (refine need_i (by first | omega | (simp only [List.length_append, List.length_cons, List.length_nil]; omega)) ?_; conv => whnf) | ((with_reducible refine branch_tt ?_); conv => whnf) | ((with_reducible refine branch_ff ?_); conv => whnf) | (with_reducible refine branch_not ?_)))
                refine call_i wild_ok fun r hr => ?_
                obtain ⟨y, rfl, -⟩ := hr
                (conv => whnf); (repeat (first | (refine arith_i ⟨by omega, by omega⟩ ?_; conv => whnf) | (refine need_i (by first | omega | (simp only [List.length_append, List.length_cons, List.length_nil]; omega)) ?_; conv => whnf) | ((with_reducible refine branch_tt ?_); conv => whnf) | ((with_reducible refine branch_ff ?_); conv => whnf) | (with_reducible refine branch_not ?_)))
                refine ⟨?_, trivial⟩
                (conv => whnf); (repeat (first | (refine arith_i ⟨by omega, by omega⟩ ?_; conv => whnf) | (refine need_i (by first | omega | (simp only [List.length_append, List.length_cons, List.length_nil]; omega)) ?_; conv => whnf) | ((with_reducible refine branch_tt ?_); conv => whnf) | ((with_reducible refine branch_ff ?_); conv => whnf) | (with_reducible refine branch_not ?_)))
                refine ⟨?_, trivial⟩
                (conv => whnf); (repeat (first | (refine arith_i ⟨by omega, by omega⟩ ?_; conv => whnf) | (refine need_i (by first | omega | (simp only [List.length_append, List.length_cons, List.length_nil]; omega)) ?_; conv => whnf) | ((with_reducible refine branch_tt ?_); conv => whnf) | ((with_reducible refine branch_ff ?_); conv => whnf) | (with_reducible refine branch_not ?_)))
                refine ⟨?_, trivial⟩
                (conv => whnf); (repeat (first | (refine arith_i ⟨by omega, by omega⟩ ?_; conv => whnf) | (refine need_i (by first | omega | (simp only [List.length_append, List.length_cons, List.length_nil]; omega)) ?_; conv => whnf) | ((with_reducible refine branch_tt ?_); conv => whnf) | ((with_reducible refine branch_ff ?_); conv => whnf) | (with_reducible refine branch_not ?_)))
                refine syl_ret (ts ++ [⟨⟨#[108, 97, 115, 116]⟩, y⟩]) os cs ?_ (by simp; omega) (by omega) (by omega) (fun e => by omega)
                simp [sylO, encTpc]
                rfl
              · (conv => whnf); (repeat (first | (refine arith_i ⟨by omega, by omega⟩ ?_; conv => whnf) | (refine need_i (by first | omega | (simp only [List.length_append, List.length_cons, List.length_nil]; omega)) ?_; conv => whnf) | ((with_reducible refine branch_tt ?_); conv => whnf) | ((with_reducible refine branch_ff ?_); conv => whnf) | (with_reducible refine branch_not ?_)))
                refine branch_e (fun e2 => ?_) (fun e2 => ?_)
                · (conv => whnf); (repeat (first | (refine arith_i ⟨by omega, by omega⟩ ?_; conv => whnf) | (refine need_i (by first | omega | (simp only [List.length_append, List.length_cons, List.length_nil]; omega)) ?_; conv => whnf) | ((with_reducible refine branch_tt ?_); conv => whnf) | ((with_reducible refine branch_ff ?_); conv => whnf) | (with_reducible refine branch_not ?_)))
                  refine draw_i 10 (.take 0 (.take 1 (.take 3 (.alt 2 (.alt 4 (.take 5 (.alt 6 (.alt 7 (.alt 8 (.take 9 (.alt 10 .done .stop)) .stop) .stop) .stop)) .stop) (.alt 4 (.alt 2 (.take 5 (.alt 6 (.alt 7 (.alt 8 (.take 9 (.alt 10 .done .stop)) .stop) .stop) .stop)) .stop) .stop))))) (by decide +kernel) ?_
                  (conv => whnf); (repeat (first | (refine arith_i ⟨by omega, by omega⟩ ?_; conv => whnf) | (refine need_i (by first | omega | (simp only [List.length_append, List.length_cons, List.length_nil]; omega)) ?_; conv => whnf) | ((with_reducible refine branch_tt ?_); conv => whnf) | ((with_reducible refine branch_ff ?_); conv => whnf) | (with_reducible refine branch_not ?_)))
                  refine ⟨?_, ?_, trivial⟩
                  · (conv => whnf); (repeat (first | (refine arith_i ⟨by omega, by omega⟩ ?_; conv => whnf) | (refine need_i (by first | omega | (simp only [List.length_append, List.length_cons, List.length_nil]; omega)) ?_; conv => whnf) | ((with_reducible refine branch_tt ?_); conv => whnf) | ((with_reducible refine branch_ff ?_); conv => whnf) | (with_reducible refine branch_not ?_)))
                    refine ⟨?_, trivial⟩
                    (conv => whnf); (repeat (first | (refine arith_i ⟨by omega, by omega⟩ ?_; conv => whnf) | (refine need_i (by first | omega | (simp only [List.length_append, List.length_cons, List.length_nil]; omega)) ?_; conv => whnf) | ((with_reducible refine branch_tt ?_); conv => whnf) | ((with_reducible refine branch_ff ?_); conv => whnf) | (with_reducible refine branch_not ?_)))
                    refine call_i (next_ok 4 (by omega)) fun r hr => ?_
                    obtain ⟨y, rfl, -, hy⟩ := hr
                    replace hy := hy (by omega)
                    (conv => whnf); (repeat (first | (refine arith_i ⟨by omega, by omega⟩ ?_; conv => whnf) | (refine need_i (by first | omega | (simp only [List.length_append, List.length_cons, List.length_nil]; omega)) ?_; conv => whnf) | ((with_reducible refine branch_tt ?_); conv => whnf) | ((with_reducible refine branch_ff ?_); conv => whnf) | (with_reducible refine branch_not ?_)))
                    refine idx_m (enc := encS) (xs := [⟨#[]⟩, ⟨#[66, 105, 103]⟩, ⟨#[109, 117, 99, 104, 116, 111, 111, 108, 111, 110, 103, 97, 110, 97, 109, 101]⟩, ⟨#[120]⟩]) (by omega) (by show y < 4; omega) fun z hz => ?_
                    (conv => whnf); (repeat (first | (refine arith_i ⟨by omega, by omega⟩ ?_; conv => whnf) | (refine need_i (by first | omega | (simp only [List.length_append, List.length_cons, List.length_nil]; omega)) ?_; conv => whnf) | ((with_reducible refine branch_tt ?_); conv => whnf) | ((with_reducible refine branch_ff ?_); conv => whnf) | (with_reducible refine branch_not ?_)))
                    refine ⟨?_, trivial⟩
                    (conv => whnf); (repeat (first | (refine arith_i ⟨by omega, by omega⟩ ?_; conv => whnf) | (refine need_i (by first | omega | (simp only [List.length_append, List.length_cons, List.length_nil]; omega)) ?_; conv => whnf) | ((with_reducible refine branch_tt ?_); conv => whnf) | ((with_reducible refine branch_ff ?_); conv => whnf) | (with_reducible refine branch_not ?_)))
                    refine ⟨?_, trivial⟩
                    (conv => whnf); (repeat (first | (refine arith_i ⟨by omega, by omega⟩ ?_; conv => whnf) | (refine need_i (by first | omega | (simp only [List.length_append, List.length_cons, List.length_nil]; omega)) ?_; conv => whnf) | ((with_reducible refine branch_tt ?_); conv => whnf) | ((with_reducible refine branch_ff ?_); conv => whnf) | (with_reducible refine branch_not ?_)))
                    refine ⟨?_, trivial⟩
                    (conv => whnf); (repeat (first | (refine arith_i ⟨by omega, by omega⟩ ?_; conv => whnf) | (refine need_i (by first | omega | (simp only [List.length_append, List.length_cons, List.length_nil]; omega)) ?_; conv => whnf) | ((with_reducible refine branch_tt ?_); conv => whnf) | ((with_reducible refine branch_ff ?_); conv => whnf) | (with_reducible refine branch_not ?_)))
                    refine ⟨?_, trivial⟩
                    (conv => whnf); (repeat (first | (refine arith_i ⟨by omega, by omega⟩ ?_; conv => whnf) | (refine need_i (by first | omega | (simp only [List.length_append, List.length_cons, List.length_nil]; omega)) ?_; conv => whnf) | ((with_reducible refine branch_tt ?_); conv => whnf) | ((with_reducible refine branch_ff ?_); conv => whnf) | (with_reducible refine branch_not ?_)))
                    refine syl_ret ts (os ++ [z]) cs ?_ (by omega) (by simp; omega) (by omega) (fun e => by omega)
                    simp [sylO, encS]
                    rfl
                  · (conv => whnf); (repeat (first | (refine arith_i ⟨by omega, by omega⟩ ?_; conv => whnf) | (refine need_i (by first | omega | (simp only [List.length_append, List.length_cons, List.length_nil]; omega)) ?_; conv => whnf) | ((with_reducible refine branch_tt ?_); conv => whnf) | ((with_reducible refine branch_ff ?_); conv => whnf) | (with_reducible refine branch_not ?_)))
                    refine call_i (next_ok 4 (by omega)) fun r hr => ?_
                    obtain ⟨y, rfl, -, hy⟩ := hr
                    replace hy := hy (by omega)
                    (conv => whnf); (repeat (first | (refine arith_i ⟨by omega, by omega⟩ ?_; conv => whnf) | (refine need_i (by first | omega | (simp only [List.length_append, List.length_cons, List.length_nil]; omega)) ?_; conv => whnf) | ((with_reducible refine branch_tt ?_); conv => whnf) | ((with_reducible refine branch_ff ?_); conv => whnf) | (with_reducible refine branch_not ?_)))
                    refine ⟨?_, trivial⟩
                    (conv => whnf); (repeat (first | (refine arith_i ⟨by omega, by omega⟩ ?_; conv => whnf) | (refine need_i (by first | omega | (simp only [List.length_append, List.length_cons, List.length_nil]; omega)) ?_; conv => whnf) | ((with_reducible refine branch_tt ?_); conv => whnf) | ((with_reducible refine branch_ff ?_); conv => whnf) | (with_reducible refine branch_not ?_)))
                    refine idx_m (enc := encS) (xs := [⟨#[]⟩, ⟨#[66, 105, 103]⟩, ⟨#[109, 117, 99, 104, 116, 111, 111, 108, 111, 110, 103, 97, 110, 97, 109, 101]⟩, ⟨#[120]⟩]) (by omega) (by show y < 4; omega) fun z hz => ?_
                    (conv => whnf); (repeat (first | (refine arith_i ⟨by omega, by omega⟩ ?_; conv => whnf) | (refine need_i (by first | omega | (simp only [List.length_append, List.length_cons, List.length_nil]; omega)) ?_; conv => whnf) | ((with_reducible refine branch_tt ?_); conv => whnf) | ((with_reducible refine branch_ff ?_); conv => whnf) | (with_reducible refine branch_not ?_)))
                    refine ⟨?_, trivial⟩
                    (conv => whnf); (repeat (first | (refine arith_i ⟨by omega, by omega⟩ ?_; conv => whnf) | (refine need_i (by first | omega | (simp only [List.length_append, List.length_cons, List.length_nil]; omega)) ?_; conv => whnf) | ((with_reducible refine branch_tt ?_); conv => whnf) | ((with_reducible refine branch_ff ?_); conv => whnf) | (with_reducible refine branch_not ?_)))
                    refine ⟨?_, trivial⟩
                    (conv => whnf); (repeat (first | (refine arith_i ⟨by omega, by omega⟩ ?_; conv => whnf) | (refine need_i (by first | omega | (simp only [List.length_append, List.length_cons, List.length_nil]; omega)) ?_; conv => whnf) | ((with_reducible refine branch_tt ?_); conv => whnf) | ((with_reducible refine branch_ff ?_); conv => whnf) | (with_reducible refine branch_not ?_)))
                    refine ⟨?_, trivial⟩
                    (conv => whnf); (repeat (first | (refine arith_i ⟨by omega, by omega⟩ ?_; conv => whnf) | (refine need_i (by first | omega | (simp only [List.length_append, List.length_cons, List.length_nil]; omega)) ?_; conv => whnf) | ((with_reducible refine branch_tt ?_); conv => whnf) | ((with_reducible refine branch_ff ?_); conv => whnf) | (with_reducible refine branch_not ?_)))
                    refine ⟨?_, trivial⟩
                    (conv => whnf); (repeat (first | (refine arith_i ⟨by omega, by omega⟩ ?_; conv => whnf) | (refine need_i (by first | omega | (simp only [List.length_append, List.length_cons, List.length_nil]; omega)) ?_; conv => whnf) | ((with_reducible refine branch_tt ?_); conv => whnf) | ((with_reducible refine branch_ff ?_); conv => whnf) | (with_reducible refine branch_not ?_)))
                    refine syl_ret ts (os ++ [z]) cs ?_ (by omega) (by simp; omega) (by omega) (fun e => by omega)
                    simp [sylO, encS]
                    rfl
                · (conv => whnf); (repeat (first | (refine arith_i ⟨by omega, by omega⟩ ?_; conv => whnf) | (refine need_i (by first | omega | (simp only [List.length_append, List.length_cons, List.length_nil]; omega)) ?_; conv => whnf) | ((with_reducible refine branch_tt ?_); conv => whnf) | ((with_reducible refine branch_ff ?_); conv => whnf) | (with_reducible refine branch_not ?_)))
                  refine branch_e (fun e3 => ?_) (fun e3 => ?_)
                  · (conv => whnf); (repeat (first | (refine arith_i ⟨by omega, by omega⟩ ?_; conv => whnf) | (refine need_i (by first | omega | (simp only [List.length_append, List.length_cons, List.length_nil]; omega)) ?_; conv => whnf) | ((with_reducible refine branch_tt ?_); conv => whnf) | ((with_reducible refine branch_ff ?_); conv => whnf) | (with_reducible refine branch_not ?_)))
                    refine draw_i 10 (.take 0 (.take 1 (.take 2 (.take 4 (.alt 3 (.alt 5 (.take 6 (.alt 7 (.alt 8 (.take 9 (.alt 10 .done .stop)) .stop) .stop)) .stop) .stop))))) (by decide +kernel) ?_
                    (conv => whnf); (repeat (first | (refine arith_i ⟨by omega, by omega⟩ ?_; conv => whnf) | (refine need_i (by first | omega | (simp only [List.length_append, List.length_cons, List.length_nil]; omega)) ?_; conv => whnf) | ((with_reducible refine branch_tt ?_); conv => whnf) | ((with_reducible refine branch_ff ?_); conv => whnf) | (with_reducible refine branch_not ?_)))
                    refine ⟨?_, trivial⟩
                    (conv => whnf); (repeat (first | (refine arith_i ⟨by omega, by omega⟩ ?_; conv => whnf) | (refine need_i (by first | omega | (simp only [List.length_append, List.length_cons, List.length_nil]; omega)) ?_; conv => whnf) | ((with_reducible refine branch_tt ?_); conv => whnf) | ((with_reducible refine branch_ff ?_); conv => whnf) | (with_reducible refine branch_not ?_)))
                    refine call_i wild_ok fun r hr => ?_
                    obtain ⟨y, rfl, -⟩ := hr
                    (conv => whnf); (repeat (first | (refine arith_i ⟨by omega, by omega⟩ ?_; conv => whnf) | (refine need_i (by first | omega | (simp only [List.length_append, List.length_cons, List.length_nil]; omega)) ?_; conv => whnf) | ((with_reducible refine branch_tt ?_); conv => whnf) | ((with_reducible refine branch_ff ?_); conv => whnf) | (with_reducible refine branch_not ?_)))
                    refine ⟨?_, trivial⟩
                    (conv => whnf); (repeat (first | (refine arith_i ⟨by omega, by omega⟩ ?_; conv => whnf) | (refine need_i (by first | omega | (simp only [List.length_append, List.length_cons, List.length_nil]; omega)) ?_; conv => whnf) | ((with_reducible refine branch_tt ?_); conv => whnf) | ((with_reducible refine branch_ff ?_); conv => whnf) | (with_reducible refine branch_not ?_)))
                    refine call_i wild_ok fun r hr => ?_
                    obtain ⟨z, rfl, -⟩ := hr
                    (conv => whnf); (repeat (first | (refine arith_i ⟨by omega, by omega⟩ ?_; conv => whnf) | (refine need_i (by first | omega | (simp only [List.length_append, List.length_cons, List.length_nil]; omega)) ?_; conv => whnf) | ((with_reducible refine branch_tt ?_); conv => whnf) | ((with_reducible refine branch_ff ?_); conv => whnf) | (with_reducible refine branch_not ?_)))
                    refine ⟨?_, trivial⟩
                    (conv => whnf); (repeat (first | (refine arith_i ⟨by omega, by omega⟩ ?_; conv => whnf) | (refine need_i (by first | omega | (simp only [List.length_append, List.length_cons, List.length_nil]; omega)) ?_; conv => whnf) | ((with_reducible refine branch_tt ?_); conv => whnf) | ((with_reducible refine branch_ff ?_); conv => whnf) | (with_reducible refine branch_not ?_)))
                    refine ⟨?_, trivial⟩
                    (conv => whnf); (repeat (first | (refine arith_i ⟨by omega, by omega⟩ ?_; conv => whnf) | (refine need_i (by first | omega | (simp only [List.length_append, List.length_cons, List.length_nil]; omega)) ?_; conv => whnf) | ((with_reducible refine branch_tt ?_); conv => whnf) | ((with_reducible refine branch_ff ?_); conv => whnf) | (with_reducible refine branch_not ?_)))
                    refine ⟨?_, trivial⟩
                    (conv => whnf); (repeat (first | (refine arith_i ⟨by omega, by omega⟩ ?_; conv => whnf) | (refine need_i (by first | omega | (simp only [List.length_append, List.length_cons, List.length_nil]; omega)) ?_; conv => whnf) | ((with_reducible refine branch_tt ?_); conv => whnf) | ((with_reducible refine branch_ff ?_); conv => whnf) | (with_reducible refine branch_not ?_)))
                    refine syl_ret ts os (cs ++ [⟨⟨#[101, 120, 116, 114, 97]⟩, y, z⟩]) ?_ (by omega) (by omega) (by simp; omega) (fun e => by omega)
                    simp [sylO, encCmp]
                    rfl
                  · (conv => whnf); (repeat (first | (refine arith_i ⟨by omega, by omega⟩ ?_; conv => whnf) | (refine need_i (by first | omega | (simp only [List.length_append, List.length_cons, List.length_nil]; omega)) ?_; conv => whnf) | ((with_reducible refine branch_tt ?_); conv => whnf) | ((with_reducible refine branch_ff ?_); conv => whnf) | (with_reducible refine branch_not ?_)))
                    refine branch_e (fun e4 => ?_) (fun e4 => ?_)
                    · (conv => whnf); (repeat (first | (refine arith_i ⟨by omega, by omega⟩ ?_; conv => whnf) | (refine need_i (by first | omega | (simp only [List.length_append, List.length_cons, List.length_nil]; omega)) ?_; conv => whnf) | ((with_reducible refine branch_tt ?_); conv => whnf) | ((with_reducible refine branch_ff ?_); conv => whnf) | (with_reducible refine branch_not ?_)))
                      refine syl_ret ts (os ++ [⟨#[97]⟩, ⟨#[98]⟩, ⟨#[99]⟩, ⟨#[100]⟩, ⟨#[101]⟩, ⟨#[102]⟩, ⟨#[103]⟩]) cs ?_ (by omega) (by simp; omega) (by omega) (fun e => by omega)
                      simp [sylO, encS]
                      rfl
                    · (conv => whnf); (repeat (first | (refine arith_i ⟨by omega, by omega⟩ ?_; conv => whnf) | (refine need_i (by first | omega | (simp only [List.length_append, List.length_cons, List.length_nil]; omega)) ?_; conv => whnf) | ((with_reducible refine branch_tt ?_); conv => whnf) | ((with_reducible refine branch_ff ?_); conv => whnf) | (with_reducible refine branch_not ?_)))
                      refine syl_ret ts os (cs ++ [⟨⟨#[116, 119, 111, 32, 119, 111, 114, 100, 115]⟩, 1, 1⟩]) ?_ (by omega) (by omega) (by simp; omega) (fun e => by omega)
                      simp [sylO, encCmp]
                      rfl
        · (conv => whnf); (repeat (first | (refine arith_i ⟨by omega, by omega⟩ ?_; conv => whnf) | (refine need_i (by first | omega | (simp only [List.length_append, List.length_cons, List.length_nil]; omega)) ?_; conv => whnf) | ((with_reducible refine branch_tt ?_); conv => whnf) | ((with_reducible refine branch_ff ?_); conv => whnf) | (with_reducible refine branch_not ?_)))
          exact syl_ret ts os cs rfl (by omega) (by omega) (by omega) fun _ => ⟨hT, hO, hC⟩
end Go.Proofs.Ytcnjdkfppobdhaa
