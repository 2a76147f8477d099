/- Layer 8 by the interpreter: the generator of blueprints. -/
import Derived.Test.YtpglaaiecgjmmaaGL08h
namespace Go.Proofs.Ytpglaaiecgjmmaa
set_option linter.unusedVariables false
set_option linter.unusedSimpArgs false
set_option linter.unnecessarySimpa false
set_option linter.unusedSectionVars false
set_option maxRecDepth 10000
open Go.RowKit

theorem box_snoc8 {α : Type} {enc : α → List AV} {t e z : Nat} {xs : List α} (pre post : List AV) (x : α) : some (pre ++ AV.own t e z (xs.map enc ++ [enc x]) :: post) = some (pre ++ AV.own t e z ((xs ++ [x]).map enc) :: post) := by simp
def bluO (a b c d e : Int) (ts os : List Rng) (rs : List Int) (ps : List Frm) : List AV := [.int .i64 a, .int .i64 b, .int .i64 c, .int .i64 d, .own 20 114 3 (ts.map encRng), .own 21 114 3 (os.map encRng), .own 22 3 1 (rs.map encI), .own 23 85 2 (ps.map encFrm), .int .i64 e]
def blu0 : List AV := [.int .i64 0, .int .i64 0, .int .i64 0, .int .i64 0, .nil, .nil, .nil, .nil, .int .i64 0]
/-- Ranges of the tape: indices ascend below i. -/
def RngG (i : Nat) (ts : List Rng) : Prop := (∀ r ∈ ts, 0 ≤ r.index ∧ r.index < i ∧ 0 ≤ r.least ∧ r.least ≤ 3 ∧ 4 ≤ r.most ∧ r.most ≤ 30) ∧ ts.Pairwise (fun x y => x.index < y.index)
theorem RngG.nil {i : Nat} : RngG i [] := ⟨by simp, .nil⟩
theorem RngG.skip {i : Nat} {ts : List Rng} (h : RngG i ts) : RngG (i + 1) ts := ⟨fun r hr => by have := h.1 r hr; omega, h.2⟩
theorem RngG.snoc {i : Nat} {ts : List Rng} {lo up : Int} (h : RngG i ts) (h1 : 0 ≤ lo ∧ lo < 4) (h2 : 4 ≤ up ∧ up ≤ 30) : RngG (i + 1) (ts ++ [⟨i, lo, up⟩]) := by
  refine ⟨fun r hr => ?_, List.pairwise_append.2 ⟨h.2, List.pairwise_singleton .., fun x hx y hy => ?_⟩⟩
  · rcases List.mem_append.1 hr with hr | hr
    · have := h.1 r hr; omega
    · rw [List.mem_singleton.1 hr]
      show 0 ≤ (i : Int) ∧ (i : Int) < (i + 1 : Nat) ∧ 0 ≤ lo ∧ lo ≤ 3 ∧ 4 ≤ up ∧ up ≤ 30
      omega
  · rw [List.mem_singleton.1 hy]
    have := h.1 x hx
    show x.index < (i : Int)
    omega
def ReqG (i : Nat) (rs : List Int) : Prop := (∀ x ∈ rs, 0 ≤ x ∧ x < i) ∧ rs.Pairwise (· < ·)
theorem ReqG.nil {i : Nat} : ReqG i [] := ⟨by simp, .nil⟩
theorem ReqG.skip {i : Nat} {rs : List Int} (h : ReqG i rs) : ReqG (i + 1) rs := ⟨fun r hr => by have := h.1 r hr; omega, h.2⟩
theorem ReqG.snoc {i : Nat} {rs : List Int} (h : ReqG i rs) : ReqG (i + 1) (rs ++ [(i : Int)]) := by
  refine ⟨fun r hr => ?_, List.pairwise_append.2 ⟨h.2, List.pairwise_singleton .., fun x hx y hy => ?_⟩⟩
  · rcases List.mem_append.1 hr with hr | hr
    · have := h.1 r hr; omega
    · rw [List.mem_singleton.1 hr]; omega
  · rw [List.mem_singleton.1 hy]
    have := h.1 x hx
    omega
def FrmG (ps : List Frm) : Prop := ∀ f ∈ ps, f.items.length ≤ 10
theorem ranges_zero {c : Int} : ∀ {rs seen : List Rng}, (∀ r ∈ rs, rngB c r = true) → (seen ++ rs).Pairwise (fun x y => x.index ≠ y.index) → rangesF c seen rs = 0
  | [], _, _, _ => rfl
  | r :: rs, seen, h1, h2 => by
    have ha : (seen.any fun x => x.index == r.index) = false := by
      rw [List.any_eq_false]
      intro x hx
      have := (List.pairwise_append.1 h2).2.2 x hx r (by simp)
      simpa using this
    rw [rangesF, h1 r (by simp), if_neg (by simp), ha, if_neg (by simp)]
    exact ranges_zero (fun x hx => h1 x (by simp [hx])) (by rw [List.append_assoc]; exact h2)
theorem RngG.zero {i : Nat} {ts : List Rng} {c : Int} (h : RngG i ts) (hc : (i : Int) ≤ c) : rangesF c [] ts = 0 :=
  ranges_zero (fun r hr => by
    have := h.1 r hr
    simp only [rngB, insideB, totB, Bool.and_eq_true, decide_eq_true_eq]
    omega) (h.2.imp fun hh => by omega)
theorem ReqG.asc {i : Nat} {rs : List Int} (h : ReqG i rs) : ascB rs = true :=
  asc_good (Nat.le_refl _) fun k h0 hk => by
    have h1 : rs[k - 1]? = some rs[k - 1] := List.getElem?_eq_getElem (by omega)
    have h2 : rs[k]? = some rs[k] := List.getElem?_eq_getElem hk
    rw [nth_eq h1, nth_eq h2]
    exact List.pairwise_iff_getElem.1 h.2 (k - 1) k (by omega) hk (by omega)
/-- A blueprint of the tape; without a mistake it is valid. -/
structure BluG (n : Int) (b : Blu) : Prop where
  short : Short b
  frm : FrmG b.previous
  ok : n = 0 → bluF b = 0 ∧ b.topics.length ≤ 4 ∧ b.objectives.length ≤ 3 ∧ b.required.length ≤ 3 ∧ b.previous.length ≤ 2
theorem blu_ok0 {a b c d e : Int} {ts os : List Rng} {rs : List Int} {ps : List Frm} (h1 : 0 ≤ a ∧ a ≤ 100) (h2 : 0 ≤ b ∧ b ≤ 100) (h3 : 0 ≤ c ∧ c ≤ 100) (h4 : 0 ≤ d ∧ d ≤ 100) (h5 : 0 ≤ e ∧ e ≤ 10) (k1 : ts.length ≤ 4) (k2 : os.length ≤ 3) (k3 : rs.length ≤ 3) (k4 : ps.length ≤ 2) (g1 : RngG 4 ts) (g2 : RngG 3 os) (g3 : ReqG 3 rs) : bluF ⟨a, b, c, d, ts, os, rs, ps, e⟩ = 0 := by
  have n0 : numB ⟨a, b, c, d, ts, os, rs, ps, e⟩ = true := by
    simp only [numB, totB, insideB, Bool.and_eq_true, decide_eq_true_eq]; omega
  have l0 : lenB ⟨a, b, c, d, ts, os, rs, ps, e⟩ = true := by
    simp only [lenB, Bool.and_eq_true, decide_eq_true_eq]; omega
  unfold bluF
  rw [n0, if_neg (by simp), l0, if_neg (by simp), g1.zero (by decide), g2.zero (by decide), if_neg (by simp), if_neg (by simp), g3.asc]
  rfl
theorem blu_ret {n : Int} (a b c d e : Int) (ts os : List Rng) (rs : List Int) (ps : List Frm) (h1 : ts.length ≤ 9) (h2 : os.length ≤ 9) (h3 : rs.length ≤ 9) (h4 : ps.length ≤ 9) (h5 : FrmG ps) (h6 : n = 0 → bluF ⟨a, b, c, d, ts, os, rs, ps, e⟩ = 0 ∧ ts.length ≤ 4 ∧ os.length ≤ 3 ∧ rs.length ≤ 3 ∧ ps.length ≤ 2) : aret (.agg (bluO a b c d e ts os rs ps)) (fun r => ∃ b, r = bluV b ∧ BluG n b) :=
  ret_a (cs' := bluC ⟨a, b, c, d, ts, os, rs, ps, e⟩) ⟨rc_p rfl, rc_p rfl, rc_p rfl, rc_p rfl, rc_o, rc_o, rc_o, rc_o, rc_p rfl, trivial⟩ ⟨_, rfl, ⟨by show ts.length ≤ 1000; omega, by show os.length ≤ 1000; omega, by show rs.length ≤ 1000; omega, by show ps.length ≤ 1000; omega⟩, h5, h6⟩
theorem blu_fin {n : Int} {cs : List AV} (a b c d e : Int) (ts os : List Rng) (rs : List Int) (ps : List Frm) (hcs : cs = bluO a b c d e ts os rs ps) (h1 : ts.length ≤ 9) (h2 : os.length ≤ 9) (h3 : rs.length ≤ 9) (h4 : ps.length ≤ 9) (h5 : FrmG ps) (h6 : n = 0 → bluF ⟨a, b, c, d, ts, os, rs, ps, e⟩ = 0 ∧ ts.length ≤ 4 ∧ os.length ≤ 3 ∧ rs.length ≤ 3 ∧ ps.length ≤ 2) : aret (.agg cs) (fun r => ∃ b, r = bluV b ∧ BluG n b) := by
  subst hcs; exact blu_ret a b c d e ts os rs ps h1 h2 h3 h4 h5 h6
set_option maxHeartbeats 1000000 in
theorem blueprint_ok (n : Int) (hn : 0 ≤ n ∧ n ≤ 1000) : Good Try.prog TT true 29 [.tape, .int .i64 n] (fun r => ∃ b, r = bluV b ∧ BluG n b) := by
  refine good_of mixed tabOk Try.func29 rfl rfl Try.ntmps29 Try.results29 rfl rfl ?_
  (conv => whnf); (repeat (first | (refine arith_i ⟨by omega, by omega⟩ ?_; conv => whnf) | (refine need_i (by first | omega | (simp only [List.length_append, List.length_cons, List.length_nil]; omega)) ?_; conv => whnf) | ((with_reducible refine branch_tt ?_); conv => whnf) | ((with_reducible refine branch_ff ?_); conv => whnf) | (with_reducible refine branch_not ?_) | ((with_reducible refine slc_e ?_); conv => whnf) | ((with_reducible refine callS_a ?_); conv => whnf) | ((with_reducible refine own_e ?_); conv => whnf)))
  refine call_i (next_ok 3 (by omega)) fun r hr => ?_
  obtain ⟨a, rfl, -, ha⟩ := hr
  replace ha := ha (by omega)
  (conv => whnf); (repeat (first | (refine arith_i ⟨by omega, by omega⟩ ?_; conv => whnf) | (refine need_i (by first | omega | (simp only [List.length_append, List.length_cons, List.length_nil]; omega)) ?_; conv => whnf) | ((with_reducible refine branch_tt ?_); conv => whnf) | ((with_reducible refine branch_ff ?_); conv => whnf) | (with_reducible refine branch_not ?_) | ((with_reducible refine slc_e ?_); conv => whnf) | ((with_reducible refine callS_a ?_); conv => whnf) | ((with_reducible refine own_e ?_); conv => whnf)))
  refine call_i (range_ok 0 4 (by omega) (by omega)) fun r hr => ?_
  obtain ⟨b', rfl, -, hb⟩ := hr
  replace hb := hb (by omega)
  (conv => whnf); (repeat (first | (refine arith_i ⟨by omega, by omega⟩ ?_; conv => whnf) | (refine need_i (by first | omega | (simp only [List.length_append, List.length_cons, List.length_nil]; omega)) ?_; conv => whnf) | ((with_reducible refine branch_tt ?_); conv => whnf) | ((with_reducible refine branch_ff ?_); conv => whnf) | (with_reducible refine branch_not ?_) | ((with_reducible refine slc_e ?_); conv => whnf) | ((with_reducible refine callS_a ?_); conv => whnf) | ((with_reducible refine own_e ?_); conv => whnf)))
  refine call_i (next_ok 12 (by omega)) fun r hr => ?_
  obtain ⟨c, rfl, -, hc⟩ := hr
  replace hc := hc (by omega)
  (conv => whnf); (repeat (first | (refine arith_i ⟨by omega, by omega⟩ ?_; conv => whnf) | (refine need_i (by first | omega | (simp only [List.length_append, List.length_cons, List.length_nil]; omega)) ?_; conv => whnf) | ((with_reducible refine branch_tt ?_); conv => whnf) | ((with_reducible refine branch_ff ?_); conv => whnf) | (with_reducible refine branch_not ?_) | ((with_reducible refine slc_e ?_); conv => whnf) | ((with_reducible refine callS_a ?_); conv => whnf) | ((with_reducible refine own_e ?_); conv => whnf)))
  refine call_i (range_ok 10 60 (by omega) (by omega)) fun r hr => ?_
  obtain ⟨d, rfl, -, hd⟩ := hr
  replace hd := hd (by omega)
  (conv => whnf); (repeat (first | (refine arith_i ⟨by omega, by omega⟩ ?_; conv => whnf) | (refine need_i (by first | omega | (simp only [List.length_append, List.length_cons, List.length_nil]; omega)) ?_; conv => whnf) | ((with_reducible refine branch_tt ?_); conv => whnf) | ((with_reducible refine branch_ff ?_); conv => whnf) | (with_reducible refine branch_not ?_) | ((with_reducible refine slc_e ?_); conv => whnf) | ((with_reducible refine callS_a ?_); conv => whnf) | ((with_reducible refine own_e ?_); conv => whnf)))
  refine call_i (next_ok 3 (by omega)) fun r hr => ?_
  obtain ⟨e, rfl, -, he⟩ := hr
  replace he := he (by omega)
  (conv => whnf); (repeat (first | (refine arith_i ⟨by omega, by omega⟩ ?_; conv => whnf) | (refine need_i (by first | omega | (simp only [List.length_append, List.length_cons, List.length_nil]; omega)) ?_; conv => whnf) | ((with_reducible refine branch_tt ?_); conv => whnf) | ((with_reducible refine branch_ff ?_); conv => whnf) | (with_reducible refine branch_not ?_) | ((with_reducible refine slc_e ?_); conv => whnf) | ((with_reducible refine callS_a ?_); conv => whnf) | ((with_reducible refine own_e ?_); conv => whnf)))
  refine loop_i (fun p : Nat × List Rng => p.1 ≤ 4 ∧ p.2.length ≤ p.1 ∧ RngG p.1 p.2) (fun p => mkSt [(0, .tape), (1, .int .i64 n), (4, .ptr 4 0), (6, .ptr 6 0), (7, .int .i64 p.1)] [(4, blu0), (6, bluO a (a + b') c d e p.2 [] [] [])] true) (fun p => 4 - p.1) (0, []) ⟨by decide, by decide, RngG.nil⟩ (Le.trans (le_adoptBox 6 4 20 114 3 rfl rfl) (Le.trans (le_adoptBox 6 5 21 114 3 rfl rfl) (Le.trans (le_adoptBox 6 6 22 3 1 rfl rfl) (Le.trans (le_adoptBox 6 7 23 85 2 rfl rfl) (le_mk ⟨rfl, rfl, rfl, rfl, rfl, trivial⟩ ⟨rfl, rfl, trivial⟩ rfl))))) ?_
  rintro ⟨i, ts⟩ ⟨hi, ht, gt⟩
  replace hi : i ≤ 4 := hi
  replace ht : ts.length ≤ i := ht
  replace gt : RngG i ts := gt
  have L1 : (ts.map encRng).length = ts.length := List.length_map ..
  (conv => whnf); (repeat (first | (refine arith_i ⟨by omega, by omega⟩ ?_; conv => whnf) | (refine need_i (by first | omega | (simp only [List.length_append, List.length_cons, List.length_nil]; omega)) ?_; conv => whnf) | ((with_reducible refine branch_tt ?_); conv => whnf) | ((with_reducible refine branch_ff ?_); conv => whnf) | (with_reducible refine branch_not ?_) | ((with_reducible refine slc_e ?_); conv => whnf) | ((with_reducible refine callS_a ?_); conv => whnf) | ((with_reducible refine own_e ?_); conv => whnf)))
  refine branch_d (fun h => ?_) (fun h => ?_)
  · replace h : (i : Int) < 4 := h
    (conv => whnf); (repeat (first | (refine arith_i ⟨by omega, by omega⟩ ?_; conv => whnf) | (refine need_i (by first | omega | (simp only [List.length_append, List.length_cons, List.length_nil]; omega)) ?_; conv => whnf) | ((with_reducible refine branch_tt ?_); conv => whnf) | ((with_reducible refine branch_ff ?_); conv => whnf) | (with_reducible refine branch_not ?_) | ((with_reducible refine slc_e ?_); conv => whnf) | ((with_reducible refine callS_a ?_); conv => whnf) | ((with_reducible refine own_e ?_); conv => whnf)))
    refine call_i (one_ok 3 (by omega)) fun r hr => ?_
    obtain ⟨bb, rfl⟩ := hr
    (conv => whnf); (repeat (first | (refine arith_i ⟨by omega, by omega⟩ ?_; conv => whnf) | (refine need_i (by first | omega | (simp only [List.length_append, List.length_cons, List.length_nil]; omega)) ?_; conv => whnf) | ((with_reducible refine branch_tt ?_); conv => whnf) | ((with_reducible refine branch_ff ?_); conv => whnf) | (with_reducible refine branch_not ?_) | ((with_reducible refine slc_e ?_); conv => whnf) | ((with_reducible refine callS_a ?_); conv => whnf) | ((with_reducible refine own_e ?_); conv => whnf)))
    cases bb with
    | true =>
      (conv => whnf); (repeat (first | (refine arith_i ⟨by omega, by omega⟩ ?_; conv => whnf) | (refine need_i (by first | omega | (simp only [List.length_append, List.length_cons, List.length_nil]; omega)) ?_; conv => whnf) | ((with_reducible refine branch_tt ?_); conv => whnf) | ((with_reducible refine branch_ff ?_); conv => whnf) | (with_reducible refine branch_not ?_) | ((with_reducible refine slc_e ?_); conv => whnf) | ((with_reducible refine callS_a ?_); conv => whnf) | ((with_reducible refine own_e ?_); conv => whnf)))
      refine draw_i 11 (.take 0 (.take 1 (.take 2 (.take 3 (.take 5 (.alt 4 (.alt 6 (.take 7 (.alt 8 (.alt 9 (.take 10 (.alt 11 .done .stop)) .stop) .stop)) .stop) .stop)))))) (by decide +kernel) ?_
      (conv => whnf); (repeat (first | (refine arith_i ⟨by omega, by omega⟩ ?_; conv => whnf) | (refine need_i (by first | omega | (simp only [List.length_append, List.length_cons, List.length_nil]; omega)) ?_; conv => whnf) | ((with_reducible refine branch_tt ?_); conv => whnf) | ((with_reducible refine branch_ff ?_); conv => whnf) | (with_reducible refine branch_not ?_) | ((with_reducible refine slc_e ?_); conv => whnf) | ((with_reducible refine callS_a ?_); conv => whnf) | ((with_reducible refine own_e ?_); conv => whnf)))
      refine ⟨?_, trivial⟩
      (conv => whnf); (repeat (first | (refine arith_i ⟨by omega, by omega⟩ ?_; conv => whnf) | (refine need_i (by first | omega | (simp only [List.length_append, List.length_cons, List.length_nil]; omega)) ?_; conv => whnf) | ((with_reducible refine branch_tt ?_); conv => whnf) | ((with_reducible refine branch_ff ?_); conv => whnf) | (with_reducible refine branch_not ?_) | ((with_reducible refine slc_e ?_); conv => whnf) | ((with_reducible refine callS_a ?_); conv => whnf) | ((with_reducible refine own_e ?_); conv => whnf)))
      refine call_i (next_ok 4 (by omega)) fun r hr => ?_
      obtain ⟨lo, rfl, -, hlo⟩ := hr
      (conv => whnf); (repeat (first | (refine arith_i ⟨by omega, by omega⟩ ?_; conv => whnf) | (refine need_i (by first | omega | (simp only [List.length_append, List.length_cons, List.length_nil]; omega)) ?_; conv => whnf) | ((with_reducible refine branch_tt ?_); conv => whnf) | ((with_reducible refine branch_ff ?_); conv => whnf) | (with_reducible refine branch_not ?_) | ((with_reducible refine slc_e ?_); conv => whnf) | ((with_reducible refine callS_a ?_); conv => whnf) | ((with_reducible refine own_e ?_); conv => whnf)))
      refine ⟨?_, trivial⟩
      (conv => whnf); (repeat (first | (refine arith_i ⟨by omega, by omega⟩ ?_; conv => whnf) | (refine need_i (by first | omega | (simp only [List.length_append, List.length_cons, List.length_nil]; omega)) ?_; conv => whnf) | ((with_reducible refine branch_tt ?_); conv => whnf) | ((with_reducible refine branch_ff ?_); conv => whnf) | (with_reducible refine branch_not ?_) | ((with_reducible refine slc_e ?_); conv => whnf) | ((with_reducible refine callS_a ?_); conv => whnf) | ((with_reducible refine own_e ?_); conv => whnf)))
      refine call_i (range_ok 4 30 (by omega) (by omega)) fun r hr => ?_
      obtain ⟨up, rfl, -, hup⟩ := hr
      (conv => whnf); (repeat (first | (refine arith_i ⟨by omega, by omega⟩ ?_; conv => whnf) | (refine need_i (by first | omega | (simp only [List.length_append, List.length_cons, List.length_nil]; omega)) ?_; conv => whnf) | ((with_reducible refine branch_tt ?_); conv => whnf) | ((with_reducible refine branch_ff ?_); conv => whnf) | (with_reducible refine branch_not ?_) | ((with_reducible refine slc_e ?_); conv => whnf) | ((with_reducible refine callS_a ?_); conv => whnf) | ((with_reducible refine own_e ?_); conv => whnf)))
      refine ⟨?_, trivial⟩
      (conv => whnf); (repeat (first | (refine arith_i ⟨by omega, by omega⟩ ?_; conv => whnf) | (refine need_i (by first | omega | (simp only [List.length_append, List.length_cons, List.length_nil]; omega)) ?_; conv => whnf) | ((with_reducible refine branch_tt ?_); conv => whnf) | ((with_reducible refine branch_ff ?_); conv => whnf) | (with_reducible refine branch_not ?_) | ((with_reducible refine slc_e ?_); conv => whnf) | ((with_reducible refine callS_a ?_); conv => whnf) | ((with_reducible refine own_e ?_); conv => whnf)))
      refine ⟨?_, trivial⟩
      (conv => whnf); (repeat (first | (refine arith_i ⟨by omega, by omega⟩ ?_; conv => whnf) | (refine need_i (by first | omega | (simp only [List.length_append, List.length_cons, List.length_nil]; omega)) ?_; conv => whnf) | ((with_reducible refine branch_tt ?_); conv => whnf) | ((with_reducible refine branch_ff ?_); conv => whnf) | (with_reducible refine branch_not ?_) | ((with_reducible refine slc_e ?_); conv => whnf) | ((with_reducible refine callS_a ?_); conv => whnf) | ((with_reducible refine own_e ?_); conv => whnf)))
      refine ⟨?_, trivial⟩
      (conv => whnf); (repeat (first | (refine arith_i ⟨by omega, by omega⟩ ?_; conv => whnf) | (refine need_i (by first | omega | (simp only [List.length_append, List.length_cons, List.length_nil]; omega)) ?_; conv => whnf) | ((with_reducible refine branch_tt ?_); conv => whnf) | ((with_reducible refine branch_ff ?_); conv => whnf) | (with_reducible refine branch_not ?_) | ((with_reducible refine slc_e ?_); conv => whnf) | ((with_reducible refine callS_a ?_); conv => whnf) | ((with_reducible refine own_e ?_); conv => whnf)))
      refine ⟨(i + 1, ts ++ [⟨i, lo, up⟩]), ⟨by show i + 1 ≤ 4; omega, by show (ts ++ _).length ≤ i + 1; simp; omega, gt.snoc (hlo (by omega)) (hup (by omega))⟩, le_mk ⟨rfl, rfl, rfl, rfl, rfl, trivial⟩ ⟨rfl, ?_, trivial⟩ rfl, by show 4 - (i + 1) < 4 - i; omega⟩
      conv => lhs; whnf
      conv => lhs; arg 1; simp only [setRange, List.map, St.map, killF, bluO]
      simp [bluO, encRng]
      rfl
    | false =>
      (conv => whnf); (repeat (first | (refine arith_i ⟨by omega, by omega⟩ ?_; conv => whnf) | (refine need_i (by first | omega | (simp only [List.length_append, List.length_cons, List.length_nil]; omega)) ?_; conv => whnf) | ((with_reducible refine branch_tt ?_); conv => whnf) | ((with_reducible refine branch_ff ?_); conv => whnf) | (with_reducible refine branch_not ?_) | ((with_reducible refine slc_e ?_); conv => whnf) | ((with_reducible refine callS_a ?_); conv => whnf) | ((with_reducible refine own_e ?_); conv => whnf)))
      exact ⟨(i + 1, ts), ⟨by show i + 1 ≤ 4; omega, by show ts.length ≤ i + 1; omega, gt.skip⟩, le_mk ⟨rfl, rfl, rfl, rfl, rfl, trivial⟩ ⟨rfl, rfl, trivial⟩ rfl, by show 4 - (i + 1) < 4 - i; omega⟩
  · replace ht : ts.length ≤ 4 := by omega
    have hi4 : i = 4 := by omega
    subst hi4
    clear h hi
    (conv => whnf); (repeat (first | (refine arith_i ⟨by omega, by omega⟩ ?_; conv => whnf) | (refine need_i (by first | omega | (simp only [List.length_append, List.length_cons, List.length_nil]; omega)) ?_; conv => whnf) | ((with_reducible refine branch_tt ?_); conv => whnf) | ((with_reducible refine branch_ff ?_); conv => whnf) | (with_reducible refine branch_not ?_) | ((with_reducible refine slc_e ?_); conv => whnf) | ((with_reducible refine callS_a ?_); conv => whnf) | ((with_reducible refine own_e ?_); conv => whnf)))
    refine loop_i (fun p : Nat × List Rng => p.1 ≤ 3 ∧ p.2.length ≤ p.1 ∧ RngG p.1 p.2) (fun p => mkSt [(0, .tape), (1, .int .i64 n), (4, .ptr 4 0), (6, .ptr 6 0), (8, .int .i64 p.1)] [(4, blu0), (6, bluO a (a + b') c d e ts p.2 [] [])] true) (fun p => 3 - p.1) (0, []) ⟨by decide, by decide, RngG.nil⟩ (le_mk ⟨rfl, rfl, rfl, rfl, rfl, trivial⟩ ⟨rfl, rfl, trivial⟩ rfl) ?_
    rintro ⟨j, os⟩ ⟨hj, ho, go⟩
    replace hj : j ≤ 3 := hj
    replace ho : os.length ≤ j := ho
    replace go : RngG j os := go
    have L2 : (os.map encRng).length = os.length := List.length_map ..
    (conv => whnf); (repeat (first | (refine arith_i ⟨by omega, by omega⟩ ?_; conv => whnf) | (refine need_i (by first | omega | (simp only [List.length_append, List.length_cons, List.length_nil]; omega)) ?_; conv => whnf) | ((with_reducible refine branch_tt ?_); conv => whnf) | ((with_reducible refine branch_ff ?_); conv => whnf) | (with_reducible refine branch_not ?_) | ((with_reducible refine slc_e ?_); conv => whnf) | ((with_reducible refine callS_a ?_); conv => whnf) | ((with_reducible refine own_e ?_); conv => whnf)))
    refine branch_d (fun h => ?_) (fun h => ?_)
    · replace h : (j : Int) < 3 := h
      (conv => whnf); (repeat (first | (refine arith_i ⟨by omega, by omega⟩ ?_; conv => whnf) | (refine need_i (by first | omega | (simp only [List.length_append, List.length_cons, List.length_nil]; omega)) ?_; conv => whnf) | ((with_reducible refine branch_tt ?_); conv => whnf) | ((with_reducible refine branch_ff ?_); conv => whnf) | (with_reducible refine branch_not ?_) | ((with_reducible refine slc_e ?_); conv => whnf) | ((with_reducible refine callS_a ?_); conv => whnf) | ((with_reducible refine own_e ?_); conv => whnf)))
      refine call_i (one_ok 4 (by omega)) fun r hr => ?_
      obtain ⟨bb, rfl⟩ := hr
      (conv => whnf); (repeat (first | (refine arith_i ⟨by omega, by omega⟩ ?_; conv => whnf) | (refine need_i (by first | omega | (simp only [List.length_append, List.length_cons, List.length_nil]; omega)) ?_; conv => whnf) | ((with_reducible refine branch_tt ?_); conv => whnf) | ((with_reducible refine branch_ff ?_); conv => whnf) | (with_reducible refine branch_not ?_) | ((with_reducible refine slc_e ?_); conv => whnf) | ((with_reducible refine callS_a ?_); conv => whnf) | ((with_reducible refine own_e ?_); conv => whnf)))
      cases bb with
      | true =>
        (conv => whnf); (repeat (first | (refine arith_i ⟨by omega, by omega⟩ ?_; conv => whnf) | (refine need_i (by first | omega | (simp only [List.length_append, List.length_cons, List.length_nil]; omega)) ?_; conv => whnf) | ((with_reducible refine branch_tt ?_); conv => whnf) | ((with_reducible refine branch_ff ?_); conv => whnf) | (with_reducible refine branch_not ?_) | ((with_reducible refine slc_e ?_); conv => whnf) | ((with_reducible refine callS_a ?_); conv => whnf) | ((with_reducible refine own_e ?_); conv => whnf)))
        refine draw_i 11 (.take 0 (.take 1 (.take 2 (.take 3 (.take 5 (.alt 4 (.alt 6 (.take 7 (.alt 8 (.alt 9 (.take 10 (.alt 11 .done .stop)) .stop) .stop)) .stop) .stop)))))) (by decide +kernel) ?_
        (conv => whnf); (repeat (first | (refine arith_i ⟨by omega, by omega⟩ ?_; conv => whnf) | (refine need_i (by first | omega | (simp only [List.length_append, List.length_cons, List.length_nil]; omega)) ?_; conv => whnf) | ((with_reducible refine branch_tt ?_); conv => whnf) | ((with_reducible refine branch_ff ?_); conv => whnf) | (with_reducible refine branch_not ?_) | ((with_reducible refine slc_e ?_); conv => whnf) | ((with_reducible refine callS_a ?_); conv => whnf) | ((with_reducible refine own_e ?_); conv => whnf)))
        refine ⟨?_, trivial⟩
        (conv => whnf); (repeat (first | (refine arith_i ⟨by omega, by omega⟩ ?_; conv => whnf) | (refine need_i (by first | omega | (simp only [List.length_append, List.length_cons, List.length_nil]; omega)) ?_; conv => whnf) | ((with_reducible refine branch_tt ?_); conv => whnf) | ((with_reducible refine branch_ff ?_); conv => whnf) | (with_reducible refine branch_not ?_) | ((with_reducible refine slc_e ?_); conv => whnf) | ((with_reducible refine callS_a ?_); conv => whnf) | ((with_reducible refine own_e ?_); conv => whnf)))
        refine call_i (next_ok 4 (by omega)) fun r hr => ?_
        obtain ⟨lo, rfl, -, hlo⟩ := hr
        (conv => whnf); (repeat (first | (refine arith_i ⟨by omega, by omega⟩ ?_; conv => whnf) | (refine need_i (by first | omega | (simp only [List.length_append, List.length_cons, List.length_nil]; omega)) ?_; conv => whnf) | ((with_reducible refine branch_tt ?_); conv => whnf) | ((with_reducible refine branch_ff ?_); conv => whnf) | (with_reducible refine branch_not ?_) | ((with_reducible refine slc_e ?_); conv => whnf) | ((with_reducible refine callS_a ?_); conv => whnf) | ((with_reducible refine own_e ?_); conv => whnf)))
        refine ⟨?_, trivial⟩
        (conv => whnf); (repeat (first | (refine arith_i ⟨by omega, by omega⟩ ?_; conv => whnf) | (refine need_i (by first | omega | (simp only [List.length_append, List.length_cons, List.length_nil]; omega)) ?_; conv => whnf) | ((with_reducible refine branch_tt ?_); conv => whnf) | ((with_reducible refine branch_ff ?_); conv => whnf) | (with_reducible refine branch_not ?_) | ((with_reducible refine slc_e ?_); conv => whnf) | ((with_reducible refine callS_a ?_); conv => whnf) | ((with_reducible refine own_e ?_); conv => whnf)))
        refine call_i (range_ok 4 30 (by omega) (by omega)) fun r hr => ?_
        obtain ⟨up, rfl, -, hup⟩ := hr
        (conv => whnf); (repeat (first | (refine arith_i ⟨by omega, by omega⟩ ?_; conv => whnf) | (refine need_i (by first | omega | (simp only [List.length_append, List.length_cons, List.length_nil]; omega)) ?_; conv => whnf) | ((with_reducible refine branch_tt ?_); conv => whnf) | ((with_reducible refine branch_ff ?_); conv => whnf) | (with_reducible refine branch_not ?_) | ((with_reducible refine slc_e ?_); conv => whnf) | ((with_reducible refine callS_a ?_); conv => whnf) | ((with_reducible refine own_e ?_); conv => whnf)))
        refine ⟨?_, trivial⟩
        (conv => whnf); (repeat (first | (refine arith_i ⟨by omega, by omega⟩ ?_; conv => whnf) | (refine need_i (by first | omega | (simp only [List.length_append, List.length_cons, List.length_nil]; omega)) ?_; conv => whnf) | ((with_reducible refine branch_tt ?_); conv => whnf) | ((with_reducible refine branch_ff ?_); conv => whnf) | (with_reducible refine branch_not ?_) | ((with_reducible refine slc_e ?_); conv => whnf) | ((with_reducible refine callS_a ?_); conv => whnf) | ((with_reducible refine own_e ?_); conv => whnf)))
        refine ⟨?_, trivial⟩
        (conv => whnf); (repeat (first | (refine arith_i ⟨by omega, by omega⟩ ?_; conv => whnf) | (refine need_i (by first | omega | (simp only [List.length_append, List.length_cons, List.length_nil]; omega)) ?_; conv => whnf) | ((with_reducible refine branch_tt ?_); conv => whnf) | ((with_reducible refine branch_ff ?_); conv => whnf) | (with_reducible refine branch_not ?_) | ((with_reducible refine slc_e ?_); conv => whnf) | ((with_reducible refine callS_a ?_); conv => whnf) | ((with_reducible refine own_e ?_); conv => whnf)))
        refine ⟨?_, trivial⟩
        (conv => whnf); (repeat (first | (refine arith_i ⟨by omega, by omega⟩ ?_; conv => whnf) | (refine need_i (by first | omega | (simp only [List.length_append, List.length_cons, List.length_nil]; omega)) ?_; conv => whnf) | ((with_reducible refine branch_tt ?_); conv => whnf) | ((with_reducible refine branch_ff ?_); conv => whnf) | (with_reducible refine branch_not ?_) | ((with_reducible refine slc_e ?_); conv => whnf) | ((with_reducible refine callS_a ?_); conv => whnf) | ((with_reducible refine own_e ?_); conv => whnf)))
        refine ⟨(j + 1, os ++ [⟨j, lo, up⟩]), ⟨by show j + 1 ≤ 3; omega, by show (os ++ _).length ≤ j + 1; simp; omega, go.snoc (hlo (by omega)) (hup (by omega))⟩, le_mk ⟨rfl, rfl, rfl, rfl, rfl, trivial⟩ ⟨rfl, ?_, trivial⟩ rfl, by show 3 - (j + 1) < 3 - j; omega⟩
        conv => lhs; whnf
        conv => lhs; arg 1; simp only [setRange, List.map, St.map, killF, bluO]
        simp [bluO, encRng]
        rfl
      | false =>
        (conv => whnf); (repeat (first | (refine arith_i ⟨by omega, by omega⟩ ?_; conv => whnf) | (refine need_i (by first | omega | (simp only [List.length_append, List.length_cons, List.length_nil]; omega)) ?_; conv => whnf) | ((with_reducible refine branch_tt ?_); conv => whnf) | ((with_reducible refine branch_ff ?_); conv => whnf) | (with_reducible refine branch_not ?_) | ((with_reducible refine slc_e ?_); conv => whnf) | ((with_reducible refine callS_a ?_); conv => whnf) | ((with_reducible refine own_e ?_); conv => whnf)))
        exact ⟨(j + 1, os), ⟨by show j + 1 ≤ 3; omega, by show os.length ≤ j + 1; omega, go.skip⟩, le_mk ⟨rfl, rfl, rfl, rfl, rfl, trivial⟩ ⟨rfl, rfl, trivial⟩ rfl, by show 3 - (j + 1) < 3 - j; omega⟩
    · replace ho : os.length ≤ 3 := by omega
      have hj3 : j = 3 := by omega
      subst hj3
      clear h hj
      (conv => whnf); (repeat (first | (refine arith_i ⟨by omega, by omega⟩ ?_; conv => whnf) | (refine need_i (by first | omega | (simp only [List.length_append, List.length_cons, List.length_nil]; omega)) ?_; conv => whnf) | ((with_reducible refine branch_tt ?_); conv => whnf) | ((with_reducible refine branch_ff ?_); conv => whnf) | (with_reducible refine branch_not ?_) | ((with_reducible refine slc_e ?_); conv => whnf) | ((with_reducible refine callS_a ?_); conv => whnf) | ((with_reducible refine own_e ?_); conv => whnf)))
      refine loop_i (fun p : Nat × List Int => p.1 ≤ 3 ∧ p.2.length ≤ p.1 ∧ ReqG p.1 p.2) (fun p => mkSt [(0, .tape), (1, .int .i64 n), (4, .ptr 4 0), (6, .ptr 6 0), (9, .int .i64 p.1)] [(4, blu0), (6, bluO a (a + b') c d e ts os p.2 [])] true) (fun p => 3 - p.1) (0, []) ⟨by decide, by decide, ReqG.nil⟩ (le_mk ⟨rfl, rfl, rfl, rfl, rfl, trivial⟩ ⟨rfl, rfl, trivial⟩ rfl) ?_
      rintro ⟨j, rs⟩ ⟨hj, hr0, gr⟩
      replace hj : j ≤ 3 := hj
      replace hr0 : rs.length ≤ j := hr0
      replace gr : ReqG j rs := gr
      have L3 : (rs.map encI).length = rs.length := List.length_map ..
      (conv => whnf); (repeat (first | (refine arith_i ⟨by omega, by omega⟩ ?_; conv => whnf) | (refine need_i (by first | omega | (simp only [List.length_append, List.length_cons, List.length_nil]; omega)) ?_; conv => whnf) | ((with_reducible refine branch_tt ?_); conv => whnf) | ((with_reducible refine branch_ff ?_); conv => whnf) | (with_reducible refine branch_not ?_) | ((with_reducible refine slc_e ?_); conv => whnf) | ((with_reducible refine callS_a ?_); conv => whnf) | ((with_reducible refine own_e ?_); conv => whnf)))
      refine branch_d (fun h => ?_) (fun h => ?_)
      · replace h : (j : Int) < 3 := h
        (conv => whnf); (repeat (first | (refine arith_i ⟨by omega, by omega⟩ ?_; conv => whnf) | (refine need_i (by first | omega | (simp only [List.length_append, List.length_cons, List.length_nil]; omega)) ?_; conv => whnf) | ((with_reducible refine branch_tt ?_); conv => whnf) | ((with_reducible refine branch_ff ?_); conv => whnf) | (with_reducible refine branch_not ?_) | ((with_reducible refine slc_e ?_); conv => whnf) | ((with_reducible refine callS_a ?_); conv => whnf) | ((with_reducible refine own_e ?_); conv => whnf)))
        refine call_i (one_ok 5 (by omega)) fun r hr => ?_
        obtain ⟨bb, rfl⟩ := hr
        (conv => whnf); (repeat (first | (refine arith_i ⟨by omega, by omega⟩ ?_; conv => whnf) | (refine need_i (by first | omega | (simp only [List.length_append, List.length_cons, List.length_nil]; omega)) ?_; conv => whnf) | ((with_reducible refine branch_tt ?_); conv => whnf) | ((with_reducible refine branch_ff ?_); conv => whnf) | (with_reducible refine branch_not ?_) | ((with_reducible refine slc_e ?_); conv => whnf) | ((with_reducible refine callS_a ?_); conv => whnf) | ((with_reducible refine own_e ?_); conv => whnf)))
        cases bb with
        | true =>
          (conv => whnf); (repeat (first | (refine arith_i ⟨by omega, by omega⟩ ?_; conv => whnf) | (refine need_i (by first | omega | (simp only [List.length_append, List.length_cons, List.length_nil]; omega)) ?_; conv => whnf) | ((with_reducible refine branch_tt ?_); conv => whnf) | ((with_reducible refine branch_ff ?_); conv => whnf) | (with_reducible refine branch_not ?_) | ((with_reducible refine slc_e ?_); conv => whnf) | ((with_reducible refine callS_a ?_); conv => whnf) | ((with_reducible refine own_e ?_); conv => whnf)))
          exact ⟨(j + 1, rs ++ [(j : Int)]), ⟨by show j + 1 ≤ 3; omega, by show (rs ++ _).length ≤ j + 1; simp; omega, gr.snoc⟩, le_mk ⟨rfl, rfl, rfl, rfl, rfl, trivial⟩ ⟨rfl, box_snoc8 (enc := encI) [.int .i64 a, .int .i64 (a + b'), .int .i64 c, .int .i64 d, .own 20 114 3 (ts.map encRng), .own 21 114 3 (os.map encRng)] [.own 23 85 2 [], .int .i64 e] (j : Int), trivial⟩ rfl, by show 3 - (j + 1) < 3 - j; omega⟩
        | false =>
          (conv => whnf); (repeat (first | (refine arith_i ⟨by omega, by omega⟩ ?_; conv => whnf) | (refine need_i (by first | omega | (simp only [List.length_append, List.length_cons, List.length_nil]; omega)) ?_; conv => whnf) | ((with_reducible refine branch_tt ?_); conv => whnf) | ((with_reducible refine branch_ff ?_); conv => whnf) | (with_reducible refine branch_not ?_) | ((with_reducible refine slc_e ?_); conv => whnf) | ((with_reducible refine callS_a ?_); conv => whnf) | ((with_reducible refine own_e ?_); conv => whnf)))
          exact ⟨(j + 1, rs), ⟨by show j + 1 ≤ 3; omega, by show rs.length ≤ j + 1; omega, gr.skip⟩, le_mk ⟨rfl, rfl, rfl, rfl, rfl, trivial⟩ ⟨rfl, rfl, trivial⟩ rfl, by show 3 - (j + 1) < 3 - j; omega⟩
      · replace hr0 : rs.length ≤ 3 := by omega
        have hj3 : j = 3 := by omega
        subst hj3
        clear h hj
        (conv => whnf); (repeat (first | (refine arith_i ⟨by omega, by omega⟩ ?_; conv => whnf) | (refine need_i (by first | omega | (simp only [List.length_append, List.length_cons, List.length_nil]; omega)) ?_; conv => whnf) | ((with_reducible refine branch_tt ?_); conv => whnf) | ((with_reducible refine branch_ff ?_); conv => whnf) | (with_reducible refine branch_not ?_) | ((with_reducible refine slc_e ?_); conv => whnf) | ((with_reducible refine callS_a ?_); conv => whnf) | ((with_reducible refine own_e ?_); conv => whnf)))
        refine call_i (next_ok 3 (by omega)) fun r hr => ?_
        obtain ⟨m, rfl, -, hm⟩ := hr
        replace hm := hm (by omega)
        (conv => whnf); (repeat (first | (refine arith_i ⟨by omega, by omega⟩ ?_; conv => whnf) | (refine need_i (by first | omega | (simp only [List.length_append, List.length_cons, List.length_nil]; omega)) ?_; conv => whnf) | ((with_reducible refine branch_tt ?_); conv => whnf) | ((with_reducible refine branch_ff ?_); conv => whnf) | (with_reducible refine branch_not ?_) | ((with_reducible refine slc_e ?_); conv => whnf) | ((with_reducible refine callS_a ?_); conv => whnf) | ((with_reducible refine own_e ?_); conv => whnf)))
        refine loop_i (fun ps : List Frm => (ps.length : Int) ≤ m ∧ FrmG ps) (fun ps => mkSt [(0, .tape), (1, .int .i64 n), (4, .ptr 4 0), (6, .ptr 6 0), (10, .int .i64 (m - ps.length))] [(4, blu0), (6, bluO a (a + b') c d e ts os rs ps)] true) (fun ps => m.toNat - ps.length) [] ⟨by simp; omega, by simp [FrmG]⟩ (le_mk ⟨rfl, rfl, rfl, rfl, int_eq (by simp), trivial⟩ ⟨rfl, rfl, trivial⟩ rfl) ?_
        rintro ps ⟨hp, gp⟩
        have L4 : (ps.map encFrm).length = ps.length := List.length_map ..
        (conv => whnf); (repeat (first | (refine arith_i ⟨by omega, by omega⟩ ?_; conv => whnf) | (refine need_i (by first | omega | (simp only [List.length_append, List.length_cons, List.length_nil]; omega)) ?_; conv => whnf) | ((with_reducible refine branch_tt ?_); conv => whnf) | ((with_reducible refine branch_ff ?_); conv => whnf) | (with_reducible refine branch_not ?_) | ((with_reducible refine slc_e ?_); conv => whnf) | ((with_reducible refine callS_a ?_); conv => whnf) | ((with_reducible refine own_e ?_); conv => whnf)))
        refine branch_d (fun h => ?_) (fun h => ?_)
        · (conv => whnf); (repeat (first | (refine arith_i ⟨by omega, by omega⟩ ?_; conv => whnf) | (refine need_i (by first | omega | (simp only [List.length_append, List.length_cons, List.length_nil]; omega)) ?_; conv => whnf) | ((with_reducible refine branch_tt ?_); conv => whnf) | ((with_reducible refine branch_ff ?_); conv => whnf) | (with_reducible refine branch_not ?_) | ((with_reducible refine slc_e ?_); conv => whnf) | ((with_reducible refine callS_a ?_); conv => whnf) | ((with_reducible refine own_e ?_); conv => whnf)))
          refine call_i (next_ok 4 (by omega)) fun r hr => ?_
          obtain ⟨q, rfl, -, hq⟩ := hr
          replace hq := hq (by omega)
          (conv => whnf); (repeat (first | (refine arith_i ⟨by omega, by omega⟩ ?_; conv => whnf) | (refine need_i (by first | omega | (simp only [List.length_append, List.length_cons, List.length_nil]; omega)) ?_; conv => whnf) | ((with_reducible refine branch_tt ?_); conv => whnf) | ((with_reducible refine branch_ff ?_); conv => whnf) | (with_reducible refine branch_not ?_) | ((with_reducible refine slc_e ?_); conv => whnf) | ((with_reducible refine callS_a ?_); conv => whnf) | ((with_reducible refine own_e ?_); conv => whnf)))
          refine loop_i (fun qs : List (Int × Int) => (qs.length : Int) ≤ q) (fun qs => mkSt [(0, .tape), (1, .int .i64 n), (4, .ptr 4 0), (6, .ptr 6 0), (10, .int .i64 (m - ps.length)), (11, .ptr 11 0), (12, .int .i64 (q - qs.length))] [(4, blu0), (6, bluO a (a + b') c d e ts os rs ps), (11, [.int .i64 0, .own 24 89 2 (qs.map encRef)])] true) (fun qs => q.toNat - qs.length) [] (by simp; omega) (Le.trans (le_adoptBox 11 1 24 89 2 rfl rfl) (le_mk ⟨rfl, rfl, rfl, rfl, rfl, rfl, int_eq (by simp), trivial⟩ ⟨rfl, rfl, rfl, trivial⟩ rfl)) ?_
          intro qs hqs
          have L5 : (qs.map encRef).length = qs.length := List.length_map ..
          (conv => whnf); (repeat (first | (refine arith_i ⟨by omega, by omega⟩ ?_; conv => whnf) | (refine need_i (by first | omega | (simp only [List.length_append, List.length_cons, List.length_nil]; omega)) ?_; conv => whnf) | ((with_reducible refine branch_tt ?_); conv => whnf) | ((with_reducible refine branch_ff ?_); conv => whnf) | (with_reducible refine branch_not ?_) | ((with_reducible refine slc_e ?_); conv => whnf) | ((with_reducible refine callS_a ?_); conv => whnf) | ((with_reducible refine own_e ?_); conv => whnf)))
          refine branch_d (fun h' => ?_) (fun h' => ?_)
          · (conv => whnf); (repeat (first | (refine arith_i ⟨by omega, by omega⟩ ?_; conv => whnf) | (refine need_i (by first | omega | (simp only [List.length_append, List.length_cons, List.length_nil]; omega)) ?_; conv => whnf) | ((with_reducible refine branch_tt ?_); conv => whnf) | ((with_reducible refine branch_ff ?_); conv => whnf) | (with_reducible refine branch_not ?_) | ((with_reducible refine slc_e ?_); conv => whnf) | ((with_reducible refine callS_a ?_); conv => whnf) | ((with_reducible refine own_e ?_); conv => whnf)))
            refine draw_i 10 (.take 0 (.take 1 (.take 2 (.take 4 (.alt 3 (.alt 5 (.take 6 (.alt 7 (.alt 8 (.take 9 (.alt 10 .done .stop)) .stop) .stop)) .stop) .stop))))) (by decide +kernel) ?_
            (conv => whnf); (repeat (first | (refine arith_i ⟨by omega, by omega⟩ ?_; conv => whnf) | (refine need_i (by first | omega | (simp only [List.length_append, List.length_cons, List.length_nil]; omega)) ?_; conv => whnf) | ((with_reducible refine branch_tt ?_); conv => whnf) | ((with_reducible refine branch_ff ?_); conv => whnf) | (with_reducible refine branch_not ?_) | ((with_reducible refine slc_e ?_); conv => whnf) | ((with_reducible refine callS_a ?_); conv => whnf) | ((with_reducible refine own_e ?_); conv => whnf)))
            refine ⟨?_, trivial⟩
            (conv => whnf); (repeat (first | (refine arith_i ⟨by omega, by omega⟩ ?_; conv => whnf) | (refine need_i (by first | omega | (simp only [List.length_append, List.length_cons, List.length_nil]; omega)) ?_; conv => whnf) | ((with_reducible refine branch_tt ?_); conv => whnf) | ((with_reducible refine branch_ff ?_); conv => whnf) | (with_reducible refine branch_not ?_) | ((with_reducible refine slc_e ?_); conv => whnf) | ((with_reducible refine callS_a ?_); conv => whnf) | ((with_reducible refine own_e ?_); conv => whnf)))
            refine call_i (next_ok 4 (by omega)) fun r hr => ?_
            obtain ⟨x, rfl, -, hx⟩ := hr
            (conv => whnf); (repeat (first | (refine arith_i ⟨by omega, by omega⟩ ?_; conv => whnf) | (refine need_i (by first | omega | (simp only [List.length_append, List.length_cons, List.length_nil]; omega)) ?_; conv => whnf) | ((with_reducible refine branch_tt ?_); conv => whnf) | ((with_reducible refine branch_ff ?_); conv => whnf) | (with_reducible refine branch_not ?_) | ((with_reducible refine slc_e ?_); conv => whnf) | ((with_reducible refine callS_a ?_); conv => whnf) | ((with_reducible refine own_e ?_); conv => whnf)))
            refine ⟨?_, trivial⟩
            (conv => whnf); (repeat (first | (refine arith_i ⟨by omega, by omega⟩ ?_; conv => whnf) | (refine need_i (by first | omega | (simp only [List.length_append, List.length_cons, List.length_nil]; omega)) ?_; conv => whnf) | ((with_reducible refine branch_tt ?_); conv => whnf) | ((with_reducible refine branch_ff ?_); conv => whnf) | (with_reducible refine branch_not ?_) | ((with_reducible refine slc_e ?_); conv => whnf) | ((with_reducible refine callS_a ?_); conv => whnf) | ((with_reducible refine own_e ?_); conv => whnf)))
            refine call_i (range_ok 1 2 (by omega) (by omega)) fun r hr => ?_
            obtain ⟨y, rfl, -, hy⟩ := hr
            (conv => whnf); (repeat (first | (refine arith_i ⟨by omega, by omega⟩ ?_; conv => whnf) | (refine need_i (by first | omega | (simp only [List.length_append, List.length_cons, List.length_nil]; omega)) ?_; conv => whnf) | ((with_reducible refine branch_tt ?_); conv => whnf) | ((with_reducible refine branch_ff ?_); conv => whnf) | (with_reducible refine branch_not ?_) | ((with_reducible refine slc_e ?_); conv => whnf) | ((with_reducible refine callS_a ?_); conv => whnf) | ((with_reducible refine own_e ?_); conv => whnf)))
            refine ⟨?_, trivial⟩
            (conv => whnf); (repeat (first | (refine arith_i ⟨by omega, by omega⟩ ?_; conv => whnf) | (refine need_i (by first | omega | (simp only [List.length_append, List.length_cons, List.length_nil]; omega)) ?_; conv => whnf) | ((with_reducible refine branch_tt ?_); conv => whnf) | ((with_reducible refine branch_ff ?_); conv => whnf) | (with_reducible refine branch_not ?_) | ((with_reducible refine slc_e ?_); conv => whnf) | ((with_reducible refine callS_a ?_); conv => whnf) | ((with_reducible refine own_e ?_); conv => whnf)))
            refine ⟨?_, trivial⟩
            (conv => whnf); (repeat (first | (refine arith_i ⟨by omega, by omega⟩ ?_; conv => whnf) | (refine need_i (by first | omega | (simp only [List.length_append, List.length_cons, List.length_nil]; omega)) ?_; conv => whnf) | ((with_reducible refine branch_tt ?_); conv => whnf) | ((with_reducible refine branch_ff ?_); conv => whnf) | (with_reducible refine branch_not ?_) | ((with_reducible refine slc_e ?_); conv => whnf) | ((with_reducible refine callS_a ?_); conv => whnf) | ((with_reducible refine own_e ?_); conv => whnf)))
            refine ⟨?_, trivial⟩
            (conv => whnf); (repeat (first | (refine arith_i ⟨by omega, by omega⟩ ?_; conv => whnf) | (refine need_i (by first | omega | (simp only [List.length_append, List.length_cons, List.length_nil]; omega)) ?_; conv => whnf) | ((with_reducible refine branch_tt ?_); conv => whnf) | ((with_reducible refine branch_ff ?_); conv => whnf) | (with_reducible refine branch_not ?_) | ((with_reducible refine slc_e ?_); conv => whnf) | ((with_reducible refine callS_a ?_); conv => whnf) | ((with_reducible refine own_e ?_); conv => whnf)))
            exact ⟨qs ++ [(x, y)], by simp; omega, le_mk ⟨rfl, rfl, rfl, rfl, rfl, rfl, int_eq (by simp; omega), trivial⟩ ⟨rfl, rfl, box_snoc8 (enc := encRef) (xs := qs) (t := 24) (e := 89) (z := 2) [.int .i64 0] [] (x, y), trivial⟩ rfl, by simp; omega⟩
          · (conv => whnf); (repeat (first | (refine arith_i ⟨by omega, by omega⟩ ?_; conv => whnf) | (refine need_i (by first | omega | (simp only [List.length_append, List.length_cons, List.length_nil]; omega)) ?_; conv => whnf) | ((with_reducible refine branch_tt ?_); conv => whnf) | ((with_reducible refine branch_ff ?_); conv => whnf) | (with_reducible refine branch_not ?_) | ((with_reducible refine slc_e ?_); conv => whnf) | ((with_reducible refine callS_a ?_); conv => whnf) | ((with_reducible refine own_e ?_); conv => whnf)))
            refine ⟨ps ++ [⟨0, qs⟩], ⟨by simp; omega, fun f hf => by
              rcases List.mem_append.1 hf with hf | hf
              · exact gp f hf
              · rw [List.mem_singleton.1 hf]; show qs.length ≤ 10; omega⟩, le_mk ⟨rfl, rfl, rfl, rfl, int_eq (by simp; omega), trivial⟩ ⟨rfl, ?_, trivial⟩ rfl, by simp; omega⟩
            conv => lhs; whnf
            conv => lhs; arg 1; simp only [setRange, List.map, St.map, killF, bluO]
            simp [bluO, encFrm]
            rfl
        · (conv => whnf); (repeat (first | (refine arith_i ⟨by omega, by omega⟩ ?_; conv => whnf) | (refine need_i (by first | omega | (simp only [List.length_append, List.length_cons, List.length_nil]; omega)) ?_; conv => whnf) | ((with_reducible refine branch_tt ?_); conv => whnf) | ((with_reducible refine branch_ff ?_); conv => whnf) | (with_reducible refine branch_not ?_) | ((with_reducible refine slc_e ?_); conv => whnf) | ((with_reducible refine callS_a ?_); conv => whnf) | ((with_reducible refine own_e ?_); conv => whnf)))
          have h4 : ps.length ≤ 3 := by omega
          refine branch_d (fun g => ?_) (fun g => ?_)
          · (conv => whnf); (repeat (first | (refine arith_i ⟨by omega, by omega⟩ ?_; conv => whnf) | (refine need_i (by first | omega | (simp only [List.length_append, List.length_cons, List.length_nil]; omega)) ?_; conv => whnf) | ((with_reducible refine branch_tt ?_); conv => whnf) | ((with_reducible refine branch_ff ?_); conv => whnf) | (with_reducible refine branch_not ?_) | ((with_reducible refine slc_e ?_); conv => whnf) | ((with_reducible refine callS_a ?_); conv => whnf) | ((with_reducible refine own_e ?_); conv => whnf)))
            refine call_i (one_ok n (by omega)) fun r hr => ?_
            obtain ⟨bb, rfl⟩ := hr
            (conv => whnf); (repeat (first | (refine arith_i ⟨by omega, by omega⟩ ?_; conv => whnf) | (refine need_i (by first | omega | (simp only [List.length_append, List.length_cons, List.length_nil]; omega)) ?_; conv => whnf) | ((with_reducible refine branch_tt ?_); conv => whnf) | ((with_reducible refine branch_ff ?_); conv => whnf) | (with_reducible refine branch_not ?_) | ((with_reducible refine slc_e ?_); conv => whnf) | ((with_reducible refine callS_a ?_); conv => whnf) | ((with_reducible refine own_e ?_); conv => whnf)))
            cases bb with
            | false =>
              (conv => whnf); (repeat (first | (refine arith_i ⟨by omega, by omega⟩ ?_; conv => whnf) | (refine need_i (by first | omega | (simp only [List.length_append, List.length_cons, List.length_nil]; omega)) ?_; conv => whnf) | ((with_reducible refine branch_tt ?_); conv => whnf) | ((with_reducible refine branch_ff ?_); conv => whnf) | (with_reducible refine branch_not ?_) | ((with_reducible refine slc_e ?_); conv => whnf) | ((with_reducible refine callS_a ?_); conv => whnf) | ((with_reducible refine own_e ?_); conv => whnf)))
              exact blu_ret _ _ _ _ _ ts os rs ps (by omega) (by omega) (by omega) (by omega) gp (fun hn0 => by first | (exfalso; omega) | exact ⟨blu_ok0 (by omega) (by omega) (by omega) (by omega) (by omega) (by omega) (by omega) (by omega) (by omega) gt go gr, by omega, by omega, by omega, by omega⟩)
            | true =>
              (conv => whnf); (repeat (first | (refine arith_i ⟨by omega, by omega⟩ ?_; conv => whnf) | (refine need_i (by first | omega | (simp only [List.length_append, List.length_cons, List.length_nil]; omega)) ?_; conv => whnf) | ((with_reducible refine branch_tt ?_); conv => whnf) | ((with_reducible refine branch_ff ?_); conv => whnf) | (with_reducible refine branch_not ?_) | ((with_reducible refine slc_e ?_); conv => whnf) | ((with_reducible refine callS_a ?_); conv => whnf) | ((with_reducible refine own_e ?_); conv => whnf)))
              refine call_i (next_ok 7 (by omega)) fun r hr => ?_
              obtain ⟨x, rfl, -, hx⟩ := hr
              (conv => whnf); (repeat (first | (refine arith_i ⟨by omega, by omega⟩ ?_; conv => whnf) | (refine need_i (by first | omega | (simp only [List.length_append, List.length_cons, List.length_nil]; omega)) ?_; conv => whnf) | ((with_reducible refine branch_tt ?_); conv => whnf) | ((with_reducible refine branch_ff ?_); conv => whnf) | (with_reducible refine branch_not ?_) | ((with_reducible refine slc_e ?_); conv => whnf) | ((with_reducible refine callS_a ?_); conv => whnf) | ((with_reducible refine own_e ?_); conv => whnf)))
              refine branch_e (fun e0 => ?_) (fun e0 => ?_)
              · (conv => whnf); (repeat (first | (refine arith_i ⟨by omega, by omega⟩ ?_; conv => whnf) | (refine need_i (by first | omega | (simp only [List.length_append, List.length_cons, List.length_nil]; omega)) ?_; conv => whnf) | ((with_reducible refine branch_tt ?_); conv => whnf) | ((with_reducible refine branch_ff ?_); conv => whnf) | (with_reducible refine branch_not ?_) | ((with_reducible refine slc_e ?_); conv => whnf) | ((with_reducible refine callS_a ?_); conv => whnf) | ((with_reducible refine own_e ?_); conv => whnf)))
                refine call_i wild_ok fun r hr => ?_
                obtain ⟨y, rfl, -⟩ := hr
                (conv => whnf); (repeat (first | (refine arith_i ⟨by omega, by omega⟩ ?_; conv => whnf) | (refine need_i (by first | omega | (simp only [List.length_append, List.length_cons, List.length_nil]; omega)) ?_; conv => whnf) | ((with_reducible refine branch_tt ?_); conv => whnf) | ((with_reducible refine branch_ff ?_); conv => whnf) | (with_reducible refine branch_not ?_) | ((with_reducible refine slc_e ?_); conv => whnf) | ((with_reducible refine callS_a ?_); conv => whnf) | ((with_reducible refine own_e ?_); conv => whnf)))
                exact blu_ret _ _ _ _ _ ts os rs ps (by omega) (by omega) (by omega) (by omega) gp (fun hn0 => by first | (exfalso; omega) | exact ⟨blu_ok0 (by omega) (by omega) (by omega) (by omega) (by omega) (by omega) (by omega) (by omega) (by omega) gt go gr, by omega, by omega, by omega, by omega⟩)
              · (conv => whnf); (repeat (first | (refine arith_i ⟨by omega, by omega⟩ ?_; conv => whnf) | (refine need_i (by first | omega | (simp only [List.length_append, List.length_cons, List.length_nil]; omega)) ?_; conv => whnf) | ((with_reducible refine branch_tt ?_); conv => whnf) | ((with_reducible refine branch_ff ?_); conv => whnf) | (with_reducible refine branch_not ?_) | ((with_reducible refine slc_e ?_); conv => whnf) | ((with_reducible refine callS_a ?_); conv => whnf) | ((with_reducible refine own_e ?_); conv => whnf)))
                refine branch_e (fun e1 => ?_) (fun e1 => ?_)
                · (conv => whnf); (repeat (first | (refine arith_i ⟨by omega, by omega⟩ ?_; conv => whnf) | (refine need_i (by first | omega | (simp only [List.length_append, List.length_cons, List.length_nil]; omega)) ?_; conv => whnf) | ((with_reducible refine branch_tt ?_); conv => whnf) | ((with_reducible refine branch_ff ?_); conv => whnf) | (with_reducible refine branch_not ?_) | ((with_reducible refine slc_e ?_); conv => whnf) | ((with_reducible refine callS_a ?_); conv => whnf) | ((with_reducible refine own_e ?_); conv => whnf)))
                  refine call_i wild_ok fun r hr => ?_
                  obtain ⟨y, rfl, -⟩ := hr
                  (conv => whnf); (repeat (first | (refine arith_i ⟨by omega, by omega⟩ ?_; conv => whnf) | (refine need_i (by first | omega | (simp only [List.length_append, List.length_cons, List.length_nil]; omega)) ?_; conv => whnf) | ((with_reducible refine branch_tt ?_); conv => whnf) | ((with_reducible refine branch_ff ?_); conv => whnf) | (with_reducible refine branch_not ?_) | ((with_reducible refine slc_e ?_); conv => whnf) | ((with_reducible refine callS_a ?_); conv => whnf) | ((with_reducible refine own_e ?_); conv => whnf)))
                  exact blu_ret _ _ _ _ _ ts os rs ps (by omega) (by omega) (by omega) (by omega) gp (fun hn0 => by first | (exfalso; omega) | exact ⟨blu_ok0 (by omega) (by omega) (by omega) (by omega) (by omega) (by omega) (by omega) (by omega) (by omega) gt go gr, by omega, by omega, by omega, by omega⟩)
                · (conv => whnf); (repeat (first | (refine arith_i ⟨by omega, by omega⟩ ?_; conv => whnf) | (refine need_i (by first | omega | (simp only [List.length_append, List.length_cons, List.length_nil]; omega)) ?_; conv => whnf) | ((with_reducible refine branch_tt ?_); conv => whnf) | ((with_reducible refine branch_ff ?_); conv => whnf) | (with_reducible refine branch_not ?_) | ((with_reducible refine slc_e ?_); conv => whnf) | ((with_reducible refine callS_a ?_); conv => whnf) | ((with_reducible refine own_e ?_); conv => whnf)))
                  refine branch_e (fun e2 => ?_) (fun e2 => ?_)
                  · (conv => whnf); (repeat (first | (refine arith_i ⟨by omega, by omega⟩ ?_; conv => whnf) | (refine need_i (by first | omega | (simp only [List.length_append, List.length_cons, List.length_nil]; omega)) ?_; conv => whnf) | ((with_reducible refine branch_tt ?_); conv => whnf) | ((with_reducible refine branch_ff ?_); conv => whnf) | (with_reducible refine branch_not ?_) | ((with_reducible refine slc_e ?_); conv => whnf) | ((with_reducible refine callS_a ?_); conv => whnf) | ((with_reducible refine own_e ?_); conv => whnf)))
                    refine call_i (pick_ok [-1, 12, 13] (by decide) (by decide)) fun r hr => ?_
                    obtain ⟨y, rfl, -⟩ := hr
                    (conv => whnf); (repeat (first | (refine arith_i ⟨by omega, by omega⟩ ?_; conv => whnf) | (refine need_i (by first | omega | (simp only [List.length_append, List.length_cons, List.length_nil]; omega)) ?_; conv => whnf) | ((with_reducible refine branch_tt ?_); conv => whnf) | ((with_reducible refine branch_ff ?_); conv => whnf) | (with_reducible refine branch_not ?_) | ((with_reducible refine slc_e ?_); conv => whnf) | ((with_reducible refine callS_a ?_); conv => whnf) | ((with_reducible refine own_e ?_); conv => whnf)))
                    exact blu_ret _ _ _ _ _ ts os rs ps (by omega) (by omega) (by omega) (by omega) gp (fun hn0 => by first | (exfalso; omega) | exact ⟨blu_ok0 (by omega) (by omega) (by omega) (by omega) (by omega) (by omega) (by omega) (by omega) (by omega) gt go gr, by omega, by omega, by omega, by omega⟩)
                  · (conv => whnf); (repeat (first | (refine arith_i ⟨by omega, by omega⟩ ?_; conv => whnf) | (refine need_i (by first | omega | (simp only [List.length_append, List.length_cons, List.length_nil]; omega)) ?_; conv => whnf) | ((with_reducible refine branch_tt ?_); conv => whnf) | ((with_reducible refine branch_ff ?_); conv => whnf) | (with_reducible refine branch_not ?_) | ((with_reducible refine slc_e ?_); conv => whnf) | ((with_reducible refine callS_a ?_); conv => whnf) | ((with_reducible refine own_e ?_); conv => whnf)))
                    refine branch_e (fun e3 => ?_) (fun e3 => ?_)
                    · (conv => whnf); (repeat (first | (refine arith_i ⟨by omega, by omega⟩ ?_; conv => whnf) | (refine need_i (by first | omega | (simp only [List.length_append, List.length_cons, List.length_nil]; omega)) ?_; conv => whnf) | ((with_reducible refine branch_tt ?_); conv => whnf) | ((with_reducible refine branch_ff ?_); conv => whnf) | (with_reducible refine branch_not ?_) | ((with_reducible refine slc_e ?_); conv => whnf) | ((with_reducible refine callS_a ?_); conv => whnf) | ((with_reducible refine own_e ?_); conv => whnf)))
                      refine draw_i 13 (.take 0 (.take 1 (.take 2 (.take 5 (.take 7 (.alt 3 (.alt 4 (.alt 6 (.alt 8 (.take 9 (.alt 10 (.alt 11 (.take 12 (.alt 13 .done .stop)) .stop) .stop)) .stop) .stop) .stop) .stop)))))) (by decide +kernel) ?_
                      (conv => whnf); (repeat (first | (refine arith_i ⟨by omega, by omega⟩ ?_; conv => whnf) | (refine need_i (by first | omega | (simp only [List.length_append, List.length_cons, List.length_nil]; omega)) ?_; conv => whnf) | ((with_reducible refine branch_tt ?_); conv => whnf) | ((with_reducible refine branch_ff ?_); conv => whnf) | (with_reducible refine branch_not ?_) | ((with_reducible refine slc_e ?_); conv => whnf) | ((with_reducible refine callS_a ?_); conv => whnf) | ((with_reducible refine own_e ?_); conv => whnf)))
                      refine ⟨?_, trivial⟩
                      (conv => whnf); (repeat (first | (refine arith_i ⟨by omega, by omega⟩ ?_; conv => whnf) | (refine need_i (by first | omega | (simp only [List.length_append, List.length_cons, List.length_nil]; omega)) ?_; conv => whnf) | ((with_reducible refine branch_tt ?_); conv => whnf) | ((with_reducible refine branch_ff ?_); conv => whnf) | (with_reducible refine branch_not ?_) | ((with_reducible refine slc_e ?_); conv => whnf) | ((with_reducible refine callS_a ?_); conv => whnf) | ((with_reducible refine own_e ?_); conv => whnf)))
                      refine ⟨?_, trivial⟩
                      (conv => whnf); (repeat (first | (refine arith_i ⟨by omega, by omega⟩ ?_; conv => whnf) | (refine need_i (by first | omega | (simp only [List.length_append, List.length_cons, List.length_nil]; omega)) ?_; conv => whnf) | ((with_reducible refine branch_tt ?_); conv => whnf) | ((with_reducible refine branch_ff ?_); conv => whnf) | (with_reducible refine branch_not ?_) | ((with_reducible refine slc_e ?_); conv => whnf) | ((with_reducible refine callS_a ?_); conv => whnf) | ((with_reducible refine own_e ?_); conv => whnf)))
                      refine call_i (pick_ok [-1, 0, 15, 16] (by decide) (by decide)) fun r hr => ?_
                      obtain ⟨y, rfl, -⟩ := hr
                      (conv => whnf); (repeat (first | (refine arith_i ⟨by omega, by omega⟩ ?_; conv => whnf) | (refine need_i (by first | omega | (simp only [List.length_append, List.length_cons, List.length_nil]; omega)) ?_; conv => whnf) | ((with_reducible refine branch_tt ?_); conv => whnf) | ((with_reducible refine branch_ff ?_); conv => whnf) | (with_reducible refine branch_not ?_) | ((with_reducible refine slc_e ?_); conv => whnf) | ((with_reducible refine callS_a ?_); conv => whnf) | ((with_reducible refine own_e ?_); conv => whnf)))
                      refine ⟨?_, trivial⟩
                      (conv => whnf); (repeat (first | (refine arith_i ⟨by omega, by omega⟩ ?_; conv => whnf) | (refine need_i (by first | omega | (simp only [List.length_append, List.length_cons, List.length_nil]; omega)) ?_; conv => whnf) | ((with_reducible refine branch_tt ?_); conv => whnf) | ((with_reducible refine branch_ff ?_); conv => whnf) | (with_reducible refine branch_not ?_) | ((with_reducible refine slc_e ?_); conv => whnf) | ((with_reducible refine callS_a ?_); conv => whnf) | ((with_reducible refine own_e ?_); conv => whnf)))
                      refine call_i (wild_ok) fun r hr => ?_
                      obtain ⟨y1, rfl, -⟩ := hr
                      (conv => whnf); (repeat (first | (refine arith_i ⟨by omega, by omega⟩ ?_; conv => whnf) | (refine need_i (by first | omega | (simp only [List.length_append, List.length_cons, List.length_nil]; omega)) ?_; conv => whnf) | ((with_reducible refine branch_tt ?_); conv => whnf) | ((with_reducible refine branch_ff ?_); conv => whnf) | (with_reducible refine branch_not ?_) | ((with_reducible refine slc_e ?_); conv => whnf) | ((with_reducible refine callS_a ?_); conv => whnf) | ((with_reducible refine own_e ?_); conv => whnf)))
                      refine ⟨?_, trivial⟩
                      (conv => whnf); (repeat (first | (refine arith_i ⟨by omega, by omega⟩ ?_; conv => whnf) | (refine need_i (by first | omega | (simp only [List.length_append, List.length_cons, List.length_nil]; omega)) ?_; conv => whnf) | ((with_reducible refine branch_tt ?_); conv => whnf) | ((with_reducible refine branch_ff ?_); conv => whnf) | (with_reducible refine branch_not ?_) | ((with_reducible refine slc_e ?_); conv => whnf) | ((with_reducible refine callS_a ?_); conv => whnf) | ((with_reducible refine own_e ?_); conv => whnf)))
                      refine call_i (wild_ok) fun r hr => ?_
                      obtain ⟨y2, rfl, -⟩ := hr
                      (conv => whnf); (repeat (first | (refine arith_i ⟨by omega, by omega⟩ ?_; conv => whnf) | (refine need_i (by first | omega | (simp only [List.length_append, List.length_cons, List.length_nil]; omega)) ?_; conv => whnf) | ((with_reducible refine branch_tt ?_); conv => whnf) | ((with_reducible refine branch_ff ?_); conv => whnf) | (with_reducible refine branch_not ?_) | ((with_reducible refine slc_e ?_); conv => whnf) | ((with_reducible refine callS_a ?_); conv => whnf) | ((with_reducible refine own_e ?_); conv => whnf)))
                      refine ⟨?_, trivial⟩
                      (conv => whnf); (repeat (first | (refine arith_i ⟨by omega, by omega⟩ ?_; conv => whnf) | (refine need_i (by first | omega | (simp only [List.length_append, List.length_cons, List.length_nil]; omega)) ?_; conv => whnf) | ((with_reducible refine branch_tt ?_); conv => whnf) | ((with_reducible refine branch_ff ?_); conv => whnf) | (with_reducible refine branch_not ?_) | ((with_reducible refine slc_e ?_); conv => whnf) | ((with_reducible refine callS_a ?_); conv => whnf) | ((with_reducible refine own_e ?_); conv => whnf)))
                      refine ⟨?_, trivial⟩
                      (conv => whnf); (repeat (first | (refine arith_i ⟨by omega, by omega⟩ ?_; conv => whnf) | (refine need_i (by first | omega | (simp only [List.length_append, List.length_cons, List.length_nil]; omega)) ?_; conv => whnf) | ((with_reducible refine branch_tt ?_); conv => whnf) | ((with_reducible refine branch_ff ?_); conv => whnf) | (with_reducible refine branch_not ?_) | ((with_reducible refine slc_e ?_); conv => whnf) | ((with_reducible refine callS_a ?_); conv => whnf) | ((with_reducible refine own_e ?_); conv => whnf)))
                      refine ⟨?_, trivial⟩
                      (conv => whnf); (repeat (first | (refine arith_i ⟨by omega, by omega⟩ ?_; conv => whnf) | (refine need_i (by first | omega | (simp only [List.length_append, List.length_cons, List.length_nil]; omega)) ?_; conv => whnf) | ((with_reducible refine branch_tt ?_); conv => whnf) | ((with_reducible refine branch_ff ?_); conv => whnf) | (with_reducible refine branch_not ?_) | ((with_reducible refine slc_e ?_); conv => whnf) | ((with_reducible refine callS_a ?_); conv => whnf) | ((with_reducible refine own_e ?_); conv => whnf)))
                      refine blu_fin a (a + b') c d e (ts ++ [⟨y, y1, y2⟩]) os rs ps ?_ (by simp; omega) (by omega) (by omega) (by omega) gp (fun hn0 => by omega)
                      simp [bluO, encRng]
                      rfl
                    · (conv => whnf); (repeat (first | (refine arith_i ⟨by omega, by omega⟩ ?_; conv => whnf) | (refine need_i (by first | omega | (simp only [List.length_append, List.length_cons, List.length_nil]; omega)) ?_; conv => whnf) | ((with_reducible refine branch_tt ?_); conv => whnf) | ((with_reducible refine branch_ff ?_); conv => whnf) | (with_reducible refine branch_not ?_) | ((with_reducible refine slc_e ?_); conv => whnf) | ((with_reducible refine callS_a ?_); conv => whnf) | ((with_reducible refine own_e ?_); conv => whnf)))
                      refine branch_e (fun e4 => ?_) (fun e4 => ?_)
                      · (conv => whnf); (repeat (first | (refine arith_i ⟨by omega, by omega⟩ ?_; conv => whnf) | (refine need_i (by first | omega | (simp only [List.length_append, List.length_cons, List.length_nil]; omega)) ?_; conv => whnf) | ((with_reducible refine branch_tt ?_); conv => whnf) | ((with_reducible refine branch_ff ?_); conv => whnf) | (with_reducible refine branch_not ?_) | ((with_reducible refine slc_e ?_); conv => whnf) | ((with_reducible refine callS_a ?_); conv => whnf) | ((with_reducible refine own_e ?_); conv => whnf)))
                        refine draw_i 8 (.take 0 (.take 1 (.take 2 (.alt 3 (.alt 4 (.alt 5 (.alt 6 (.take 7 (.alt 8 .done .stop)) .stop) .stop) .stop) .stop)))) (by decide +kernel) ?_
                        (conv => whnf); (repeat (first | (refine arith_i ⟨by omega, by omega⟩ ?_; conv => whnf) | (refine need_i (by first | omega | (simp only [List.length_append, List.length_cons, List.length_nil]; omega)) ?_; conv => whnf) | ((with_reducible refine branch_tt ?_); conv => whnf) | ((with_reducible refine branch_ff ?_); conv => whnf) | (with_reducible refine branch_not ?_) | ((with_reducible refine slc_e ?_); conv => whnf) | ((with_reducible refine callS_a ?_); conv => whnf) | ((with_reducible refine own_e ?_); conv => whnf)))
                        refine ⟨?_, trivial⟩
                        (conv => whnf); (repeat (first | (refine arith_i ⟨by omega, by omega⟩ ?_; conv => whnf) | (refine need_i (by first | omega | (simp only [List.length_append, List.length_cons, List.length_nil]; omega)) ?_; conv => whnf) | ((with_reducible refine branch_tt ?_); conv => whnf) | ((with_reducible refine branch_ff ?_); conv => whnf) | (with_reducible refine branch_not ?_) | ((with_reducible refine slc_e ?_); conv => whnf) | ((with_reducible refine callS_a ?_); conv => whnf) | ((with_reducible refine own_e ?_); conv => whnf)))
                        refine ⟨?_, trivial⟩
                        (conv => whnf); (repeat (first | (refine arith_i ⟨by omega, by omega⟩ ?_; conv => whnf) | (refine need_i (by first | omega | (simp only [List.length_append, List.length_cons, List.length_nil]; omega)) ?_; conv => whnf) | ((with_reducible refine branch_tt ?_); conv => whnf) | ((with_reducible refine branch_ff ?_); conv => whnf) | (with_reducible refine branch_not ?_) | ((with_reducible refine slc_e ?_); conv => whnf) | ((with_reducible refine callS_a ?_); conv => whnf) | ((with_reducible refine own_e ?_); conv => whnf)))
                        refine call_i (pick_ok [0, -1, 9] (by decide) (by decide)) fun r hr => ?_
                        obtain ⟨y, rfl, -⟩ := hr
                        (conv => whnf); (repeat (first | (refine arith_i ⟨by omega, by omega⟩ ?_; conv => whnf) | (refine need_i (by first | omega | (simp only [List.length_append, List.length_cons, List.length_nil]; omega)) ?_; conv => whnf) | ((with_reducible refine branch_tt ?_); conv => whnf) | ((with_reducible refine branch_ff ?_); conv => whnf) | (with_reducible refine branch_not ?_) | ((with_reducible refine slc_e ?_); conv => whnf) | ((with_reducible refine callS_a ?_); conv => whnf) | ((with_reducible refine own_e ?_); conv => whnf)))
                        refine ⟨?_, trivial⟩
                        (conv => whnf); (repeat (first | (refine arith_i ⟨by omega, by omega⟩ ?_; conv => whnf) | (refine need_i (by first | omega | (simp only [List.length_append, List.length_cons, List.length_nil]; omega)) ?_; conv => whnf) | ((with_reducible refine branch_tt ?_); conv => whnf) | ((with_reducible refine branch_ff ?_); conv => whnf) | (with_reducible refine branch_not ?_) | ((with_reducible refine slc_e ?_); conv => whnf) | ((with_reducible refine callS_a ?_); conv => whnf) | ((with_reducible refine own_e ?_); conv => whnf)))
                        refine ⟨?_, trivial⟩
                        (conv => whnf); (repeat (first | (refine arith_i ⟨by omega, by omega⟩ ?_; conv => whnf) | (refine need_i (by first | omega | (simp only [List.length_append, List.length_cons, List.length_nil]; omega)) ?_; conv => whnf) | ((with_reducible refine branch_tt ?_); conv => whnf) | ((with_reducible refine branch_ff ?_); conv => whnf) | (with_reducible refine branch_not ?_) | ((with_reducible refine slc_e ?_); conv => whnf) | ((with_reducible refine callS_a ?_); conv => whnf) | ((with_reducible refine own_e ?_); conv => whnf)))
                        refine ⟨?_, trivial⟩
                        (conv => whnf); (repeat (first | (refine arith_i ⟨by omega, by omega⟩ ?_; conv => whnf) | (refine need_i (by first | omega | (simp only [List.length_append, List.length_cons, List.length_nil]; omega)) ?_; conv => whnf) | ((with_reducible refine branch_tt ?_); conv => whnf) | ((with_reducible refine branch_ff ?_); conv => whnf) | (with_reducible refine branch_not ?_) | ((with_reducible refine slc_e ?_); conv => whnf) | ((with_reducible refine callS_a ?_); conv => whnf) | ((with_reducible refine own_e ?_); conv => whnf)))
                        refine blu_fin a (a + b') c d e ts os (rs ++ [y]) ps ?_ (by omega) (by omega) (by simp; omega) (by omega) gp (fun hn0 => by omega)
                        simp [bluO, encI]
                        rfl
                      · (conv => whnf); (repeat (first | (refine arith_i ⟨by omega, by omega⟩ ?_; conv => whnf) | (refine need_i (by first | omega | (simp only [List.length_append, List.length_cons, List.length_nil]; omega)) ?_; conv => whnf) | ((with_reducible refine branch_tt ?_); conv => whnf) | ((with_reducible refine branch_ff ?_); conv => whnf) | (with_reducible refine branch_not ?_) | ((with_reducible refine slc_e ?_); conv => whnf) | ((with_reducible refine callS_a ?_); conv => whnf) | ((with_reducible refine own_e ?_); conv => whnf)))
                        refine branch_e (fun e5 => ?_) (fun e5 => ?_)
                        · (conv => whnf); (repeat (first | (refine arith_i ⟨by omega, by omega⟩ ?_; conv => whnf) | (refine need_i (by first | omega | (simp only [List.length_append, List.length_cons, List.length_nil]; omega)) ?_; conv => whnf) | ((with_reducible refine branch_tt ?_); conv => whnf) | ((with_reducible refine branch_ff ?_); conv => whnf) | (with_reducible refine branch_not ?_) | ((with_reducible refine slc_e ?_); conv => whnf) | ((with_reducible refine callS_a ?_); conv => whnf) | ((with_reducible refine own_e ?_); conv => whnf)))
                          refine nils_i [.int .i64 0, .lst 2 [], .int .i64 0, .lst 2 [], .int .i64 0, .lst 2 []] ⟨rfl, ⟨2, rfl⟩, rfl, ⟨2, rfl⟩, rfl, ⟨2, rfl⟩, trivial⟩ ?_
                          (conv => whnf); (repeat (first | (refine arith_i ⟨by omega, by omega⟩ ?_; conv => whnf) | (refine need_i (by first | omega | (simp only [List.length_append, List.length_cons, List.length_nil]; omega)) ?_; conv => whnf) | ((with_reducible refine branch_tt ?_); conv => whnf) | ((with_reducible refine branch_ff ?_); conv => whnf) | (with_reducible refine branch_not ?_) | ((with_reducible refine slc_e ?_); conv => whnf) | ((with_reducible refine callS_a ?_); conv => whnf) | ((with_reducible refine own_e ?_); conv => whnf)))
                          refine blu_fin a (a + b') c d e ts os rs (ps ++ [⟨0, []⟩, ⟨0, []⟩, ⟨0, []⟩]) ?_ (by omega) (by omega) (by omega) (by simp; omega) (fun f hf => by
                            rcases List.mem_append.1 hf with hf | hf
                            · exact gp f hf
                            · simp at hf; subst hf; exact Nat.zero_le _) (fun hn0 => by omega)
                          simp [bluO, encFrm]
                          rfl
                        · (conv => whnf); (repeat (first | (refine arith_i ⟨by omega, by omega⟩ ?_; conv => whnf) | (refine need_i (by first | omega | (simp only [List.length_append, List.length_cons, List.length_nil]; omega)) ?_; conv => whnf) | ((with_reducible refine branch_tt ?_); conv => whnf) | ((with_reducible refine branch_ff ?_); conv => whnf) | (with_reducible refine branch_not ?_) | ((with_reducible refine slc_e ?_); conv => whnf) | ((with_reducible refine callS_a ?_); conv => whnf) | ((with_reducible refine own_e ?_); conv => whnf)))
                          refine draw_i 9 (.take 0 (.take 1 (.take 2 (.alt 3 (.alt 4 (.take 5 (.alt 6 (.alt 7 (.take 8 (.alt 9 .done .stop)) .stop) .stop)) .stop) .stop)))) (by decide +kernel) ?_
                          (conv => whnf); (repeat (first | (refine arith_i ⟨by omega, by omega⟩ ?_; conv => whnf) | (refine need_i (by first | omega | (simp only [List.length_append, List.length_cons, List.length_nil]; omega)) ?_; conv => whnf) | ((with_reducible refine branch_tt ?_); conv => whnf) | ((with_reducible refine branch_ff ?_); conv => whnf) | (with_reducible refine branch_not ?_) | ((with_reducible refine slc_e ?_); conv => whnf) | ((with_reducible refine callS_a ?_); conv => whnf) | ((with_reducible refine own_e ?_); conv => whnf)))
                          refine ⟨?_, trivial⟩
                          (conv => whnf); (repeat (first | (refine arith_i ⟨by omega, by omega⟩ ?_; conv => whnf) | (refine need_i (by first | omega | (simp only [List.length_append, List.length_cons, List.length_nil]; omega)) ?_; conv => whnf) | ((with_reducible refine branch_tt ?_); conv => whnf) | ((with_reducible refine branch_ff ?_); conv => whnf) | (with_reducible refine branch_not ?_) | ((with_reducible refine slc_e ?_); conv => whnf) | ((with_reducible refine callS_a ?_); conv => whnf) | ((with_reducible refine own_e ?_); conv => whnf)))
                          refine ⟨?_, trivial⟩
                          (conv => whnf); (repeat (first | (refine arith_i ⟨by omega, by omega⟩ ?_; conv => whnf) | (refine need_i (by first | omega | (simp only [List.length_append, List.length_cons, List.length_nil]; omega)) ?_; conv => whnf) | ((with_reducible refine branch_tt ?_); conv => whnf) | ((with_reducible refine branch_ff ?_); conv => whnf) | (with_reducible refine branch_not ?_) | ((with_reducible refine slc_e ?_); conv => whnf) | ((with_reducible refine callS_a ?_); conv => whnf) | ((with_reducible refine own_e ?_); conv => whnf)))
                          refine call_i (pick_ok [0, 5, 6] (by decide) (by decide)) fun r hr => ?_
                          obtain ⟨y, rfl, -⟩ := hr
                          (conv => whnf); (repeat (first | (refine arith_i ⟨by omega, by omega⟩ ?_; conv => whnf) | (refine need_i (by first | omega | (simp only [List.length_append, List.length_cons, List.length_nil]; omega)) ?_; conv => whnf) | ((with_reducible refine branch_tt ?_); conv => whnf) | ((with_reducible refine branch_ff ?_); conv => whnf) | (with_reducible refine branch_not ?_) | ((with_reducible refine slc_e ?_); conv => whnf) | ((with_reducible refine callS_a ?_); conv => whnf) | ((with_reducible refine own_e ?_); conv => whnf)))
                          refine ⟨?_, trivial⟩
                          (conv => whnf); (repeat (first | (refine arith_i ⟨by omega, by omega⟩ ?_; conv => whnf) | (refine need_i (by first | omega | (simp only [List.length_append, List.length_cons, List.length_nil]; omega)) ?_; conv => whnf) | ((with_reducible refine branch_tt ?_); conv => whnf) | ((with_reducible refine branch_ff ?_); conv => whnf) | (with_reducible refine branch_not ?_) | ((with_reducible refine slc_e ?_); conv => whnf) | ((with_reducible refine callS_a ?_); conv => whnf) | ((with_reducible refine own_e ?_); conv => whnf)))
                          refine ⟨?_, trivial⟩
                          (conv => whnf); (repeat (first | (refine arith_i ⟨by omega, by omega⟩ ?_; conv => whnf) | (refine need_i (by first | omega | (simp only [List.length_append, List.length_cons, List.length_nil]; omega)) ?_; conv => whnf) | ((with_reducible refine branch_tt ?_); conv => whnf) | ((with_reducible refine branch_ff ?_); conv => whnf) | (with_reducible refine branch_not ?_) | ((with_reducible refine slc_e ?_); conv => whnf) | ((with_reducible refine callS_a ?_); conv => whnf) | ((with_reducible refine own_e ?_); conv => whnf)))
                          refine ⟨?_, trivial⟩
                          (conv => whnf); (repeat (first | (refine arith_i ⟨by omega, by omega⟩ ?_; conv => whnf) | (refine need_i (by first | omega | (simp only [List.length_append, List.length_cons, List.length_nil]; omega)) ?_; conv => whnf) | ((with_reducible refine branch_tt ?_); conv => whnf) | ((with_reducible refine branch_ff ?_); conv => whnf) | (with_reducible refine branch_not ?_) | ((with_reducible refine slc_e ?_); conv => whnf) | ((with_reducible refine callS_a ?_); conv => whnf) | ((with_reducible refine own_e ?_); conv => whnf)))
                          refine blu_fin a (a + b') c d e ts (os ++ [⟨y, 0, 4⟩]) rs ps ?_ (by omega) (by simp; omega) (by omega) (by omega) gp (fun hn0 => by omega)
                          simp [bluO, encRng]
                          rfl
          · (conv => whnf); (repeat (first | (refine arith_i ⟨by omega, by omega⟩ ?_; conv => whnf) | (refine need_i (by first | omega | (simp only [List.length_append, List.length_cons, List.length_nil]; omega)) ?_; conv => whnf) | ((with_reducible refine branch_tt ?_); conv => whnf) | ((with_reducible refine branch_ff ?_); conv => whnf) | (with_reducible refine branch_not ?_) | ((with_reducible refine slc_e ?_); conv => whnf) | ((with_reducible refine callS_a ?_); conv => whnf) | ((with_reducible refine own_e ?_); conv => whnf)))
            exact blu_ret _ _ _ _ _ ts os rs ps (by omega) (by omega) (by omega) (by omega) gp (fun hn0 => by first | (exfalso; omega) | exact ⟨blu_ok0 (by omega) (by omega) (by omega) (by omega) (by omega) (by omega) (by omega) (by omega) (by omega) gt go gr, by omega, by omega, by omega, by omega⟩)
end Go.Proofs.Ytpglaaiecgjmmaa
