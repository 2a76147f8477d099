/- Layer 25: the generator of lists of scripts. -/
import Derived.Test.YtkbkdlkfpmcmdaaGL25q
namespace Go.Proofs.Ytkbkdlkfpmcmdaa
set_option linter.unusedVariables false
set_option linter.unusedSimpArgs false
set_option linter.unnecessarySimpa false
set_option linter.unusedSectionVars false
set_option maxRecDepth 10000
open Go.RowKit

structure FineS (l : List Scr) (b : Int) : Prop where
  all : ∀ (k : Nat) (s : Scr), l[k]? = some s → (GoodS s ∧ s.pages.length = 2) ∧ s.number < b
  asc : AscS l
theorem fine_sc {l : List Scr} {b c : Int} (h : FineS l b) {s : Scr} (h1 : b ≤ s.number) (h2 : s.number < c) (h3 : GoodS s ∧ s.pages.length = 2) : FineS (l ++ [s]) c := by
  refine ⟨fun k x hx => ?_, fun k x y hx hy => ?_⟩
  · rcases snoc_at hx with ⟨_, h'⟩ | ⟨_, rfl⟩
    · have := h.all k x h'; exact ⟨this.1, by omega⟩
    · exact ⟨h3, h2⟩
  · rcases snoc_at hy with ⟨hk, h'⟩ | ⟨hk, rfl⟩
    · rcases snoc_at hx with ⟨_, h''⟩ | ⟨hk', rfl⟩
      · exact h.asc k x y h'' h'
      · omega
    · rcases snoc_at hx with ⟨_, h''⟩ | ⟨hk', rfl⟩
      · have := (h.all k x h'').2; omega
      · omega
theorem FineS.up {l : List Scr} {b c : Int} (h : FineS l b) (hc : b ≤ c) : FineS l c := ⟨fun k s hs => ⟨(h.all k s hs).1, by have := (h.all k s hs).2; omega⟩, h.asc⟩
def ScrsR (r : AV) : Prop := ∃ l : List Scr, r = .own 0 63 7 (l.map encR) ∧ l.length ≤ 8 ∧ ScsOk l ∧ ∀ (k : Nat) (s : Scr), l[k]? = some s → s.pages.length = 2
theorem scripts_ok (ps : List Pap) (hl : ps.length ≤ 3) (hall : ∀ (k : Nat) (p : Pap), ps[k]? = some p → OkPap p) : Good Try.prog TT true 16 [.tape, .lst 3 (ps.map encPap), .int .i64 4] ScrsR := by
  have L : (ps.map encPap).length = ps.length := List.length_map ..
  refine good_of mixed tabOk Try.func16 rfl rfl Try.ntmps16 Try.results16 rfl rfl ?_
  (conv => whnf); (repeat (first | (refine arith_i ⟨by omega, by omega⟩ ?_; conv => whnf) | (refine need_i (by first | omega | (simp only [List.length_append, List.length_cons, List.length_nil]; omega)) ?_; conv => whnf) | ((with_reducible refine branch_tt ?_); conv => whnf) | ((with_reducible refine branch_ff ?_); conv => whnf) | (with_reducible refine branch_not ?_) | ((with_reducible refine slc_e ?_); conv => whnf) | ((with_reducible refine callS_a ?_); conv => whnf) | ((with_reducible refine bld_a ?_); conv => whnf) | ((with_reducible refine own_e ?_); conv => whnf) | ((with_reducible refine mkmap_b ?_); conv => whnf)))
  refine loop_i (fun q : Nat × List Scr => q.1 ≤ 2 ∧ q.2.length ≤ 4 * q.1 ∧ FineS q.2 (q.1 * 10000 + 1)) (fun q => mkSt [(0, .tape), (1, .lst 3 (ps.map encPap)), (2, .int .i64 4), (7, .own 200 63 7 (q.2.map encR)), (8, .int .i64 q.1)] [] true) (fun q => 2 - q.1) (0, []) ⟨by decide, by decide, nofun, nofun⟩ (Le.trans (le_adopt 7 200 63 7 rfl) (le_mk ⟨rfl, rfl, rfl, rfl, rfl, trivial⟩ trivial rfl)) ?_
  rintro ⟨cd, out⟩ ⟨hcd, hout, hfi⟩
  replace hcd : cd ≤ 2 := hcd
  replace hout : out.length ≤ 4 * cd := hout
  replace hfi : FineS out (cd * 10000 + 1) := hfi
  (conv => whnf); (repeat (first | (refine arith_i ⟨by omega, by omega⟩ ?_; conv => whnf) | (refine need_i (by first | omega | (simp only [List.length_append, List.length_cons, List.length_nil]; omega)) ?_; conv => whnf) | ((with_reducible refine branch_tt ?_); conv => whnf) | ((with_reducible refine branch_ff ?_); conv => whnf) | (with_reducible refine branch_not ?_) | ((with_reducible refine slc_e ?_); conv => whnf) | ((with_reducible refine callS_a ?_); conv => whnf) | ((with_reducible refine bld_a ?_); conv => whnf) | ((with_reducible refine own_e ?_); conv => whnf) | ((with_reducible refine mkmap_b ?_); conv => whnf)))
  refine branch_d (fun h => ?_) (fun h => ?_)
  · replace h : (cd : Int) < 2 := h
    (conv => whnf); (repeat (first | (refine arith_i ⟨by omega, by omega⟩ ?_; conv => whnf) | (refine need_i (by first | omega | (simp only [List.length_append, List.length_cons, List.length_nil]; omega)) ?_; conv => whnf) | ((with_reducible refine branch_tt ?_); conv => whnf) | ((with_reducible refine branch_ff ?_); conv => whnf) | (with_reducible refine branch_not ?_) | ((with_reducible refine slc_e ?_); conv => whnf) | ((with_reducible refine callS_a ?_); conv => whnf) | ((with_reducible refine bld_a ?_); conv => whnf) | ((with_reducible refine own_e ?_); conv => whnf) | ((with_reducible refine mkmap_b ?_); conv => whnf)))
    refine loop_i (fun q : Nat × List Pap => q.1 ≤ ps.length ∧ q.2.length ≤ q.1 ∧ ∀ (k : Nat) (p : Pap), q.2[k]? = some p → OkPap p ∧ p.code = cd) (fun q => mkSt [(0, .tape), (1, .lst 3 (ps.map encPap)), (2, .int .i64 4), (7, .own 200 63 7 (out.map encR)), (8, .int .i64 cd), (9, .own 201 101 3 (q.2.map encPap)), (10, .int .i64 q.1)] [] true) (fun q => ps.length - q.1) (0, []) ⟨Nat.zero_le _, by decide, nofun⟩ (Le.trans (le_adopt 9 201 101 3 rfl) (le_mk ⟨rfl, rfl, rfl, rfl, rfl, rfl, rfl, trivial⟩ trivial rfl)) ?_
    rintro ⟨i, ls⟩ ⟨hi, hls, hok⟩
    replace hi : i ≤ ps.length := hi
    replace hls : ls.length ≤ i := hls
    replace hok : ∀ (k : Nat) (p : Pap), ls[k]? = some p → OkPap p ∧ p.code = cd := hok
    have Ls : (ls.map encPap).length = ls.length := List.length_map ..
    (conv => whnf); (repeat (first | (refine arith_i ⟨by omega, by omega⟩ ?_; conv => whnf) | (refine need_i (by first | omega | (simp only [List.length_append, List.length_cons, List.length_nil]; omega)) ?_; conv => whnf) | ((with_reducible refine branch_tt ?_); conv => whnf) | ((with_reducible refine branch_ff ?_); conv => whnf) | (with_reducible refine branch_not ?_) | ((with_reducible refine slc_e ?_); conv => whnf) | ((with_reducible refine callS_a ?_); conv => whnf) | ((with_reducible refine bld_a ?_); conv => whnf) | ((with_reducible refine own_e ?_); conv => whnf) | ((with_reducible refine mkmap_b ?_); conv => whnf)))
    refine branch_d (fun g => ?_) (fun g => ?_)
    · replace g : (i : Int) < (ps.map encPap).length := g
      (conv => whnf); (repeat (first | (refine arith_i ⟨by omega, by omega⟩ ?_; conv => whnf) | (refine need_i (by first | omega | (simp only [List.length_append, List.length_cons, List.length_nil]; omega)) ?_; conv => whnf) | ((with_reducible refine branch_tt ?_); conv => whnf) | ((with_reducible refine branch_ff ?_); conv => whnf) | (with_reducible refine branch_not ?_) | ((with_reducible refine slc_e ?_); conv => whnf) | ((with_reducible refine callS_a ?_); conv => whnf) | ((with_reducible refine bld_a ?_); conv => whnf) | ((with_reducible refine own_e ?_); conv => whnf) | ((with_reducible refine mkmap_b ?_); conv => whnf)))
      refine idx_m (by omega) (by omega) fun p hp => ?_
      (conv => whnf); (repeat (first | (refine arith_i ⟨by omega, by omega⟩ ?_; conv => whnf) | (refine need_i (by first | omega | (simp only [List.length_append, List.length_cons, List.length_nil]; omega)) ?_; conv => whnf) | ((with_reducible refine branch_tt ?_); conv => whnf) | ((with_reducible refine branch_ff ?_); conv => whnf) | (with_reducible refine branch_not ?_) | ((with_reducible refine slc_e ?_); conv => whnf) | ((with_reducible refine callS_a ?_); conv => whnf) | ((with_reducible refine bld_a ?_); conv => whnf) | ((with_reducible refine own_e ?_); conv => whnf) | ((with_reducible refine mkmap_b ?_); conv => whnf)))
      refine branch_e (fun he => ?_) (fun he => ?_)
      · (conv => whnf); (repeat (first | (refine arith_i ⟨by omega, by omega⟩ ?_; conv => whnf) | (refine need_i (by first | omega | (simp only [List.length_append, List.length_cons, List.length_nil]; omega)) ?_; conv => whnf) | ((with_reducible refine branch_tt ?_); conv => whnf) | ((with_reducible refine branch_ff ?_); conv => whnf) | (with_reducible refine branch_not ?_) | ((with_reducible refine slc_e ?_); conv => whnf) | ((with_reducible refine callS_a ?_); conv => whnf) | ((with_reducible refine bld_a ?_); conv => whnf) | ((with_reducible refine own_e ?_); conv => whnf) | ((with_reducible refine mkmap_b ?_); conv => whnf)))
        refine idx_m (by omega) (by omega) fun p' hp' => ?_
        (conv => whnf); (repeat (first | (refine arith_i ⟨by omega, by omega⟩ ?_; conv => whnf) | (refine need_i (by first | omega | (simp only [List.length_append, List.length_cons, List.length_nil]; omega)) ?_; conv => whnf) | ((with_reducible refine branch_tt ?_); conv => whnf) | ((with_reducible refine branch_ff ?_); conv => whnf) | (with_reducible refine branch_not ?_) | ((with_reducible refine slc_e ?_); conv => whnf) | ((with_reducible refine callS_a ?_); conv => whnf) | ((with_reducible refine bld_a ?_); conv => whnf) | ((with_reducible refine own_e ?_); conv => whnf) | ((with_reducible refine mkmap_b ?_); conv => whnf)))
        refine ⟨(i + 1, ls ++ [p']), ⟨by show i + 1 ≤ ps.length; omega, by show (ls ++ _).length ≤ i + 1; simp; omega, fun k x hx => ?_⟩, le_mk ⟨rfl, rfl, rfl, rfl, rfl, ?_, rfl, trivial⟩ trivial rfl, by show ps.length - (i + 1) < ps.length - i; omega⟩
        · rcases snoc_at hx with ⟨_, h'⟩ | ⟨_, rfl⟩
          · exact hok k x h'
          · exact ⟨hall _ _ hp', by rw [hp] at hp'; injection hp' with hp'; rw [← hp']; exact he⟩
        · simp only [List.map_append, List.map_cons, List.map_nil]
          rfl
      · (conv => whnf); (repeat (first | (refine arith_i ⟨by omega, by omega⟩ ?_; conv => whnf) | (refine need_i (by first | omega | (simp only [List.length_append, List.length_cons, List.length_nil]; omega)) ?_; conv => whnf) | ((with_reducible refine branch_tt ?_); conv => whnf) | ((with_reducible refine branch_ff ?_); conv => whnf) | (with_reducible refine branch_not ?_) | ((with_reducible refine slc_e ?_); conv => whnf) | ((with_reducible refine callS_a ?_); conv => whnf) | ((with_reducible refine bld_a ?_); conv => whnf) | ((with_reducible refine own_e ?_); conv => whnf) | ((with_reducible refine mkmap_b ?_); conv => whnf)))
        exact ⟨(i + 1, ls), ⟨by show i + 1 ≤ ps.length; omega, by show ls.length ≤ i + 1; omega, hok⟩, le_mk ⟨rfl, rfl, rfl, rfl, rfl, rfl, rfl, trivial⟩ trivial rfl, by show ps.length - (i + 1) < ps.length - i; omega⟩
    · have hls3 : ls.length ≤ 3 := by omega
      clear g
      (conv => whnf); (repeat (first | (refine arith_i ⟨by omega, by omega⟩ ?_; conv => whnf) | (refine need_i (by first | omega | (simp only [List.length_append, List.length_cons, List.length_nil]; omega)) ?_; conv => whnf) | ((with_reducible refine branch_tt ?_); conv => whnf) | ((with_reducible refine branch_ff ?_); conv => whnf) | (with_reducible refine branch_not ?_) | ((with_reducible refine slc_e ?_); conv => whnf) | ((with_reducible refine callS_a ?_); conv => whnf) | ((with_reducible refine bld_a ?_); conv => whnf) | ((with_reducible refine own_e ?_); conv => whnf) | ((with_reducible refine mkmap_b ?_); conv => whnf)))
      refine loop_i (fun q : Nat × List Scr => q.1 ≤ 4 ∧ q.2.length ≤ 4 * cd + q.1 ∧ FineS q.2 (cd * 10000 + 1 + q.1)) (fun q => mkSt [(0, .tape), (1, .lst 3 (ps.map encPap)), (2, .int .i64 4), (7, .own 200 63 7 (q.2.map encR)), (8, .int .i64 cd), (9, .own 201 101 3 (ls.map encPap)), (11, .int .i64 (1 + q.1))] [] true) (fun q => 4 - q.1) (0, out) ⟨by show 0 ≤ 4; omega, by show out.length ≤ 4 * cd + 0; omega, hfi.up (by show _ ≤ (cd : Int) * 10000 + 1 + ((0 : Nat) : Int); omega)⟩ (le_mk ⟨rfl, rfl, rfl, rfl, rfl, rfl, rfl, trivial⟩ trivial rfl) ?_
      rintro ⟨c, ot⟩ ⟨hc, hot, hfo⟩
      replace hc : c ≤ 4 := hc
      replace hot : ot.length ≤ 4 * cd + c := hot
      replace hfo : FineS ot (cd * 10000 + 1 + c) := hfo
      have Lo : (ot.map encR).length = ot.length := List.length_map ..
      have e1 : ((c, ot).1 : Nat) = c := rfl
      (conv => whnf); (repeat (first | (refine arith_i ⟨by omega, by omega⟩ ?_; conv => whnf) | (refine need_i (by first | omega | (simp only [List.length_append, List.length_cons, List.length_nil]; omega)) ?_; conv => whnf) | ((with_reducible refine branch_tt ?_); conv => whnf) | ((with_reducible refine branch_ff ?_); conv => whnf) | (with_reducible refine branch_not ?_) | ((with_reducible refine slc_e ?_); conv => whnf) | ((with_reducible refine callS_a ?_); conv => whnf) | ((with_reducible refine bld_a ?_); conv => whnf) | ((with_reducible refine own_e ?_); conv => whnf) | ((with_reducible refine mkmap_b ?_); conv => whnf)))
      refine branch_d (fun g => ?_) (fun g => ?_)
      · replace g : 1 + (c : Int) ≤ 4 := g
        (conv => whnf); (repeat (first | (refine arith_i ⟨by omega, by omega⟩ ?_; conv => whnf) | (refine need_i (by first | omega | (simp only [List.length_append, List.length_cons, List.length_nil]; omega)) ?_; conv => whnf) | ((with_reducible refine branch_tt ?_); conv => whnf) | ((with_reducible refine branch_ff ?_); conv => whnf) | (with_reducible refine branch_not ?_) | ((with_reducible refine slc_e ?_); conv => whnf) | ((with_reducible refine callS_a ?_); conv => whnf) | ((with_reducible refine bld_a ?_); conv => whnf) | ((with_reducible refine own_e ?_); conv => whnf) | ((with_reducible refine mkmap_b ?_); conv => whnf)))
        refine branch_d (fun g2 => ?_) (fun g2 => ?_)
        · (conv => whnf); (repeat (first | (refine arith_i ⟨by omega, by omega⟩ ?_; conv => whnf) | (refine need_i (by first | omega | (simp only [List.length_append, List.length_cons, List.length_nil]; omega)) ?_; conv => whnf) | ((with_reducible refine branch_tt ?_); conv => whnf) | ((with_reducible refine branch_ff ?_); conv => whnf) | (with_reducible refine branch_not ?_) | ((with_reducible refine slc_e ?_); conv => whnf) | ((with_reducible refine callS_a ?_); conv => whnf) | ((with_reducible refine bld_a ?_); conv => whnf) | ((with_reducible refine own_e ?_); conv => whnf) | ((with_reducible refine mkmap_b ?_); conv => whnf)))
          refine call_i (next_ok 5 (by omega)) fun r hr => ?_
          obtain ⟨x, rfl, -, hx⟩ := hr
          (conv => whnf); (repeat (first | (refine arith_i ⟨by omega, by omega⟩ ?_; conv => whnf) | (refine need_i (by first | omega | (simp only [List.length_append, List.length_cons, List.length_nil]; omega)) ?_; conv => whnf) | ((with_reducible refine branch_tt ?_); conv => whnf) | ((with_reducible refine branch_ff ?_); conv => whnf) | (with_reducible refine branch_not ?_) | ((with_reducible refine slc_e ?_); conv => whnf) | ((with_reducible refine callS_a ?_); conv => whnf) | ((with_reducible refine bld_a ?_); conv => whnf) | ((with_reducible refine own_e ?_); conv => whnf) | ((with_reducible refine mkmap_b ?_); conv => whnf)))
          refine branch_d (fun g3 => ?_) (fun g3 => ?_)
          · (conv => whnf); (repeat (first | (refine arith_i ⟨by omega, by omega⟩ ?_; conv => whnf) | (refine need_i (by first | omega | (simp only [List.length_append, List.length_cons, List.length_nil]; omega)) ?_; conv => whnf) | ((with_reducible refine branch_tt ?_); conv => whnf) | ((with_reducible refine branch_ff ?_); conv => whnf) | (with_reducible refine branch_not ?_) | ((with_reducible refine slc_e ?_); conv => whnf) | ((with_reducible refine callS_a ?_); conv => whnf) | ((with_reducible refine bld_a ?_); conv => whnf) | ((with_reducible refine own_e ?_); conv => whnf) | ((with_reducible refine mkmap_b ?_); conv => whnf)))
            refine call_i (next_ok _ (by omega)) fun r hr => ?_
            obtain ⟨y, rfl, -, hy⟩ := hr
            replace hy := hy (by omega)
            (conv => whnf); (repeat (first | (refine arith_i ⟨by omega, by omega⟩ ?_; conv => whnf) | (refine need_i (by first | omega | (simp only [List.length_append, List.length_cons, List.length_nil]; omega)) ?_; conv => whnf) | ((with_reducible refine branch_tt ?_); conv => whnf) | ((with_reducible refine branch_ff ?_); conv => whnf) | (with_reducible refine branch_not ?_) | ((with_reducible refine slc_e ?_); conv => whnf) | ((with_reducible refine callS_a ?_); conv => whnf) | ((with_reducible refine bld_a ?_); conv => whnf) | ((with_reducible refine own_e ?_); conv => whnf) | ((with_reducible refine mkmap_b ?_); conv => whnf)))
            refine idx_m (by omega) (by omega) fun p hp => ?_
            (conv => whnf); (repeat (first | (refine arith_i ⟨by omega, by omega⟩ ?_; conv => whnf) | (refine need_i (by first | omega | (simp only [List.length_append, List.length_cons, List.length_nil]; omega)) ?_; conv => whnf) | ((with_reducible refine branch_tt ?_); conv => whnf) | ((with_reducible refine branch_ff ?_); conv => whnf) | (with_reducible refine branch_not ?_) | ((with_reducible refine slc_e ?_); conv => whnf) | ((with_reducible refine callS_a ?_); conv => whnf) | ((with_reducible refine bld_a ?_); conv => whnf) | ((with_reducible refine own_e ?_); conv => whnf) | ((with_reducible refine mkmap_b ?_); conv => whnf)))
            refine call_i (script_ok p (1 + c) (hok _ p hp).1 (by omega)) fun r hr => ?_
            obtain ⟨s, rfl, hsG, hsP, hsp, hsc, -⟩ := hr
            have hnum := hsG.number
            have hpc := (hok _ p hp).2
            (conv => whnf); (repeat (first | (refine arith_i ⟨by omega, by omega⟩ ?_; conv => whnf) | (refine need_i (by first | omega | (simp only [List.length_append, List.length_cons, List.length_nil]; omega)) ?_; conv => whnf) | ((with_reducible refine branch_tt ?_); conv => whnf) | ((with_reducible refine branch_ff ?_); conv => whnf) | (with_reducible refine branch_not ?_) | ((with_reducible refine slc_e ?_); conv => whnf) | ((with_reducible refine callS_a ?_); conv => whnf) | ((with_reducible refine bld_a ?_); conv => whnf) | ((with_reducible refine own_e ?_); conv => whnf) | ((with_reducible refine mkmap_b ?_); conv => whnf)))
            refine ⟨(c + 1, ot ++ [s]), ⟨by show c + 1 ≤ 4; omega, by show (ot ++ _).length ≤ 4 * cd + (c + 1); simp; omega, fine_sc hfo (by omega) (by show s.number < (cd : Int) * 10000 + 1 + ((c + 1 : Nat) : Int); omega) ⟨hsG, hsP⟩⟩, le_mk ⟨rfl, rfl, rfl, ?_, rfl, rfl, int_eq (by show (1 + (c : Int)) + 1 = 1 + ((c + 1 : Nat) : Int); omega), trivial⟩ trivial rfl, by show 4 - (c + 1) < 4 - c; omega⟩
            simp only [List.map_append, List.map_cons, List.map_nil]
            rfl
          · (conv => whnf); (repeat (first | (refine arith_i ⟨by omega, by omega⟩ ?_; conv => whnf) | (refine need_i (by first | omega | (simp only [List.length_append, List.length_cons, List.length_nil]; omega)) ?_; conv => whnf) | ((with_reducible refine branch_tt ?_); conv => whnf) | ((with_reducible refine branch_ff ?_); conv => whnf) | (with_reducible refine branch_not ?_) | ((with_reducible refine slc_e ?_); conv => whnf) | ((with_reducible refine callS_a ?_); conv => whnf) | ((with_reducible refine bld_a ?_); conv => whnf) | ((with_reducible refine own_e ?_); conv => whnf) | ((with_reducible refine mkmap_b ?_); conv => whnf)))
            exact ⟨(c + 1, ot), ⟨by show c + 1 ≤ 4; omega, by show ot.length ≤ 4 * cd + (c + 1); omega, hfo.up (by show _ ≤ (cd : Int) * 10000 + 1 + ((c + 1 : Nat) : Int); omega)⟩, le_mk ⟨rfl, rfl, rfl, rfl, rfl, rfl, int_eq (by show (1 + (c : Int)) + 1 = 1 + ((c + 1 : Nat) : Int); omega), trivial⟩ trivial rfl, by show 4 - (c + 1) < 4 - c; omega⟩
        · (conv => whnf); (repeat (first | (refine arith_i ⟨by omega, by omega⟩ ?_; conv => whnf) | (refine need_i (by first | omega | (simp only [List.length_append, List.length_cons, List.length_nil]; omega)) ?_; conv => whnf) | ((with_reducible refine branch_tt ?_); conv => whnf) | ((with_reducible refine branch_ff ?_); conv => whnf) | (with_reducible refine branch_not ?_) | ((with_reducible refine slc_e ?_); conv => whnf) | ((with_reducible refine callS_a ?_); conv => whnf) | ((with_reducible refine bld_a ?_); conv => whnf) | ((with_reducible refine own_e ?_); conv => whnf) | ((with_reducible refine mkmap_b ?_); conv => whnf)))
          exact ⟨(cd + 1, ot), ⟨by show cd + 1 ≤ 2; omega, by show ot.length ≤ 4 * (cd + 1); omega, hfo.up (by show _ ≤ ((cd + 1 : Nat) : Int) * 10000 + 1; omega)⟩, le_mk ⟨rfl, rfl, rfl, rfl, rfl, trivial⟩ trivial rfl, by show 2 - (cd + 1) < 2 - cd; omega⟩
      · (conv => whnf); (repeat (first | (refine arith_i ⟨by omega, by omega⟩ ?_; conv => whnf) | (refine need_i (by first | omega | (simp only [List.length_append, List.length_cons, List.length_nil]; omega)) ?_; conv => whnf) | ((with_reducible refine branch_tt ?_); conv => whnf) | ((with_reducible refine branch_ff ?_); conv => whnf) | (with_reducible refine branch_not ?_) | ((with_reducible refine slc_e ?_); conv => whnf) | ((with_reducible refine callS_a ?_); conv => whnf) | ((with_reducible refine bld_a ?_); conv => whnf) | ((with_reducible refine own_e ?_); conv => whnf) | ((with_reducible refine mkmap_b ?_); conv => whnf)))
        exact ⟨(cd + 1, ot), ⟨by show cd + 1 ≤ 2; omega, by show ot.length ≤ 4 * (cd + 1); omega, hfo.up (by show _ ≤ ((cd + 1 : Nat) : Int) * 10000 + 1; omega)⟩, le_mk ⟨rfl, rfl, rfl, rfl, rfl, trivial⟩ trivial rfl, by show 2 - (cd + 1) < 2 - cd; omega⟩
  · (conv => whnf); (repeat (first | (refine arith_i ⟨by omega, by omega⟩ ?_; conv => whnf) | (refine need_i (by first | omega | (simp only [List.length_append, List.length_cons, List.length_nil]; omega)) ?_; conv => whnf) | ((with_reducible refine branch_tt ?_); conv => whnf) | ((with_reducible refine branch_ff ?_); conv => whnf) | (with_reducible refine branch_not ?_) | ((with_reducible refine slc_e ?_); conv => whnf) | ((with_reducible refine callS_a ?_); conv => whnf) | ((with_reducible refine bld_a ?_); conv => whnf) | ((with_reducible refine own_e ?_); conv => whnf) | ((with_reducible refine mkmap_b ?_); conv => whnf)))
    exact ret_o ⟨out, rfl, by omega, ⟨by omega, fun k x hx => ⟨(hfi.all k x hx).1.1, by rw [(hfi.all k x hx).1.2]; omega⟩, hfi.asc⟩, fun k x hx => (hfi.all k x hx).1.2⟩
theorem light_ok (xs : List Int) : Good Try.prog TT false 11 [ints xs] (· = .bool (decide (xs.length ≤ 600))) := by
  have L : (xs.map encI).length = xs.length := List.length_map ..
  refine good_of mixed tabOk Try.func11 rfl rfl Try.ntmps11 Try.results11 rfl rfl ?_
  (conv => whnf); (repeat (first | (refine arith_i ⟨by omega, by omega⟩ ?_; conv => whnf) | (refine need_i (by first | omega | (simp only [List.length_append, List.length_cons, List.length_nil]; omega)) ?_; conv => whnf) | ((with_reducible refine branch_tt ?_); conv => whnf) | ((with_reducible refine branch_ff ?_); conv => whnf) | (with_reducible refine branch_not ?_) | ((with_reducible refine slc_e ?_); conv => whnf) | ((with_reducible refine callS_a ?_); conv => whnf) | ((with_reducible refine bld_a ?_); conv => whnf) | ((with_reducible refine own_e ?_); conv => whnf) | ((with_reducible refine mkmap_b ?_); conv => whnf)))
  exact ret_p rfl (bool_eq (by rw [L]; rw [decide_eq_decide]; omega))
end Go.Proofs.Ytkbkdlkfpmcmdaa
