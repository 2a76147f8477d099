/- Layer 10: Program, of both sides; the law AssemblyPrograms. -/
import Derived.Test.YtjgaacjfoaohnaaGL10h
import Derived.Test.YtjgaacjfoaohnaaGL08u
namespace Go.Proofs.Ytjgaacjfoaohnaa
set_option linter.unusedVariables false
set_option linter.unusedSimpArgs false
set_option linter.unnecessarySimpa false
set_option linter.unusedSectionVars false
set_option maxRecDepth 10000
open Go.RowKit
def pgE (b : Blu) (l : List Itm) (cs : List Int) : Int := if rowsE b l ≠ 0 then rowsE b l else if cs.length ≠ l.length then 1 else if cs.all costB = false then 2 else 0
def pgP (b : Blu) (l : List Itm) (cs : List Int) : Prog := if pgE b l cs = 0 then ⟨cs, rowsL b l⟩ else ⟨[], []⟩
def pgV (b : Blu) (l : List Itm) (cs : List Int) : AV := .tup [progV (pgP b l cs), .int .i64 (pgE b l cs)]
theorem pg_err {b : Blu} {l : List Itm} {cs : List Int} {e : Int} (h : pgE b l cs = e) (he : e ≠ 0) : aret (.tup [.agg [.nil, .nil], .int .i64 e]) (· = pgV b l cs) :=
  ret_t (rs := [progV ⟨[], []⟩, .int .i64 e]) ⟨.inr ⟨_, _, rfl, rfl, rc_n, rc_n, trivial⟩, (rc_p rfl).g, trivial⟩ (by rw [pgV, pgP, h, if_neg he])
set_option maxHeartbeats 4000000 in
theorem program10_ok (b : Blu) (l : List Itm) (cs : List Int) {es : List (List AV)} (he : l.map encX = es) (h1 : Short b) (hi : l.length ≤ 1000) (hs : ∀ x ∈ l, ItmS x) (h5 : FrmG b.previous) (hc : cs.length ≤ 1000) : Good Try.prog TT false 11 [bluV b, .lst 5 es, ints cs] (· = pgV b l cs) := by
  have LE : es.length = l.length := by rw [← he]; simp
  have LC : (cs.map encI).length = cs.length := List.length_map ..
  refine good_of mixed tabOk Try.func11 rfl rfl Try.ntmps11 Try.results11 rfl rfl ?_
  (conv => whnf); (repeat' (first | (refine arith_i ⟨by omega, by omega⟩ ?_; conv => whnf) | (refine arith_u ⟨by omega, by omega⟩ ?_; conv => whnf) | (refine arith_8 ⟨by omega, by omega⟩ ?_; conv => whnf) | (refine need_i (by first | omega | (simp only [List.length_append, List.length_cons, List.length_nil, List.length_map, List.length_replicate, List.length_modify]; omega)) ?_; conv => whnf) | ((with_reducible refine branch_tt ?_); conv => whnf) | ((with_reducible refine branch_ff ?_); conv => whnf) | (with_reducible refine branch_not ?_) | (((refine call_e (rows_at he h1 hi hs h5) ?_; rw [rowsR_eq])); conv => whnf) | ((refine call_e (clone_ok cs (by omega)) ?_); conv => whnf) | ((with_reducible refine slc_e ?_); conv => whnf) | ((with_reducible refine callS_a ?_); conv => whnf) | ((with_reducible refine own_e ?_); conv => whnf) | ((with_reducible refine branch_d (fun hq => ?_) (fun hq => ?_)) <;> (try (exfalso; omega)) <;> (conv => whnf)) | ((with_reducible refine branch_e (fun hq => ?_) (fun hq => ?_)) <;> (try (exfalso; omega)) <;> (conv => whnf)) | ((with_reducible refine branch_n (fun hq => ?_) (fun hq => ?_)) <;> (try (exfalso; omega)) <;> (conv => whnf)) | ((with_reducible refine branch_i (fun hq => ?_) (fun hq => ?_)) <;> (try (exfalso; omega)) <;> (conv => whnf))))
  · exact pg_err (by rw [pgE, if_pos hq]) hq
  · exact pg_err (e := 1) (by rw [pgE, if_neg (by omega), if_pos (by omega)]) (by omega)
  have hE : rowsE b l = 0 := by omega
  refine loop_i (fun k : Nat => k ≤ cs.length ∧ ∀ (i : Nat) (c : Int), i < k → cs[i]? = some c → costB c = true) (fun k => mkSt [(2, ints cs), (6, .ptr 6 0), (8, rowsV (rowsO b l)), (28, ints cs), (29, .int .i64 (cs.map encI).length), (30, .int .i64 k)] [(6, [.nil, .nil])] false) (fun k => cs.length - k) 0 ⟨Nat.zero_le _, nofun⟩ (le_mk (by repeat' (first | exact trivial | rfl | apply And.intro)) (by repeat' (first | exact trivial | rfl | apply And.intro)) rfl) ?_
  rintro k ⟨hk, hall⟩
  (conv => whnf); (repeat' (first | (refine arith_i ⟨by omega, by omega⟩ ?_; conv => whnf) | (refine arith_u ⟨by omega, by omega⟩ ?_; conv => whnf) | (refine arith_8 ⟨by omega, by omega⟩ ?_; conv => whnf) | (refine need_i (by first | omega | (simp only [List.length_append, List.length_cons, List.length_nil, List.length_map, List.length_replicate, List.length_modify]; omega)) ?_; conv => whnf) | ((with_reducible refine branch_tt ?_); conv => whnf) | ((with_reducible refine branch_ff ?_); conv => whnf) | (with_reducible refine branch_not ?_) | (((refine idx_c (xs := cs) (by omega) fun c hcc => ?_)); conv => whnf) | ((refine call_e (clone_ok cs (by omega)) ?_); conv => whnf) | ((with_reducible refine slc_e ?_); conv => whnf) | ((with_reducible refine callS_a ?_); conv => whnf) | ((with_reducible refine own_e ?_); conv => whnf) | ((with_reducible refine branch_d (fun hq => ?_) (fun hq => ?_)) <;> (try (exfalso; omega)) <;> (conv => whnf)) | ((with_reducible refine branch_e (fun hq => ?_) (fun hq => ?_)) <;> (try (exfalso; omega)) <;> (conv => whnf)) | ((with_reducible refine branch_n (fun hq => ?_) (fun hq => ?_)) <;> (try (exfalso; omega)) <;> (conv => whnf)) | ((with_reducible refine branch_i (fun hq => ?_) (fun hq => ?_)) <;> (try (exfalso; omega)) <;> (conv => whnf))))
  all_goals first
    | exact pg_err (e := 2) (by rw [pgE, if_neg (by omega), if_neg (by omega), if_pos (all_bad hcc (by rw [costB, Bool.and_eq_false_iff, decide_eq_false_iff_not, decide_eq_false_iff_not]; omega))]) (by omega)
    | (refine ⟨k + 1, ⟨by omega, fun i y hi hy => ?_⟩, le_mk ⟨rfl, rfl, rfl, rfl, rfl, by rw [Int.natCast_add]; rfl, trivial⟩ ⟨rfl, trivial⟩ rfl, by omega⟩
       by_cases e : i = k
       · subst e
         rw [hcc] at hy
         injection hy with hy
         rw [← hy, costB, Bool.and_eq_true, decide_eq_true_eq, decide_eq_true_eq]; omega
       · exact hall i y (by omega) hy)
    | (have h0 : pgE b l cs = 0 := by rw [pgE, if_neg (by omega), if_neg (by omega), if_neg (by rw [all_goodL (p := costB) (by omega) hall]; decide)]
       have hO : rowsO b l = rowsL b l := if_pos hE
       rw [hO]
       exact ret_t (rs := [progV ⟨cs, rowsL b l⟩, .int .i64 0]) ⟨.inr ⟨_, _, rfl, rfl, rc_o' rfl, rc_p rfl, trivial⟩, (rc_p rfl).g, trivial⟩ (by rw [pgV, pgP, h0, if_pos rfl]))
    | trace_state
set_option maxHeartbeats 4000000 in
theorem rProgram10_ok (b : Blu) (l : List Itm) (cs : List Int) {es : List (List AV)} (he : l.map encX = es) (h1 : Short b) (hi : l.length ≤ 1000) (hs : ∀ x ∈ l, ItmS x) (h5 : FrmG b.previous) (hc : cs.length ≤ 1000) : Good Try.prog TT false 12 [bluV b, .lst 5 es, ints cs] (· = pgV b l cs) := by
  have LE : es.length = l.length := by rw [← he]; simp
  have LC : (cs.map encI).length = cs.length := List.length_map ..
  refine good_of mixed tabOk Try.func12 rfl rfl Try.ntmps12 Try.results12 rfl rfl ?_
  (conv => whnf); (repeat' (first | (refine arith_i ⟨by omega, by omega⟩ ?_; conv => whnf) | (refine arith_u ⟨by omega, by omega⟩ ?_; conv => whnf) | (refine arith_8 ⟨by omega, by omega⟩ ?_; conv => whnf) | (refine need_i (by first | omega | (simp only [List.length_append, List.length_cons, List.length_nil, List.length_map, List.length_replicate, List.length_modify]; omega)) ?_; conv => whnf) | ((with_reducible refine branch_tt ?_); conv => whnf) | ((with_reducible refine branch_ff ?_); conv => whnf) | (with_reducible refine branch_not ?_) | (((refine call_e (rRows_at he h1 hi hs h5) ?_; rw [rowsR_eq])); conv => whnf) | ((with_reducible refine slc_e ?_); conv => whnf) | ((with_reducible refine callS_a ?_); conv => whnf) | ((with_reducible refine own_e ?_); conv => whnf) | ((with_reducible refine branch_d (fun hq => ?_) (fun hq => ?_)) <;> (try (exfalso; omega)) <;> (conv => whnf)) | ((with_reducible refine branch_e (fun hq => ?_) (fun hq => ?_)) <;> (try (exfalso; omega)) <;> (conv => whnf)) | ((with_reducible refine branch_n (fun hq => ?_) (fun hq => ?_)) <;> (try (exfalso; omega)) <;> (conv => whnf)) | ((with_reducible refine branch_i (fun hq => ?_) (fun hq => ?_)) <;> (try (exfalso; omega)) <;> (conv => whnf))))
  · exact pg_err (by rw [pgE, if_pos hq]) hq
  · exact pg_err (e := 1) (by rw [pgE, if_neg (by omega), if_pos (by omega)]) (by omega)
  have hE : rowsE b l = 0 := by omega
  refine loop_i (fun k : Nat => k ≤ cs.length ∧ ∀ (i : Nat) (c : Int), i < k → cs[i]? = some c → costB c = true) (fun k => mkSt [(2, ints cs), (6, .ptr 6 0), (8, rowsV (rowsO b l)), (10, .int .i64 k)] [(6, [.nil, .nil])] false) (fun k => cs.length - k) 0 ⟨Nat.zero_le _, nofun⟩ (le_mk (by repeat' (first | exact trivial | rfl | apply And.intro)) (by repeat' (first | exact trivial | rfl | apply And.intro)) rfl) ?_
  rintro k ⟨hk, hall⟩
  (conv => whnf); (repeat' (first | (refine arith_i ⟨by omega, by omega⟩ ?_; conv => whnf) | (refine arith_u ⟨by omega, by omega⟩ ?_; conv => whnf) | (refine arith_8 ⟨by omega, by omega⟩ ?_; conv => whnf) | (refine need_i (by first | omega | (simp only [List.length_append, List.length_cons, List.length_nil, List.length_map, List.length_replicate, List.length_modify]; omega)) ?_; conv => whnf) | ((with_reducible refine branch_tt ?_); conv => whnf) | ((with_reducible refine branch_ff ?_); conv => whnf) | (with_reducible refine branch_not ?_) | ((refine idx_cs (by assumption) ?_); conv => whnf) | (((refine idx_c (xs := cs) (by omega) fun c hcc => ?_)); conv => whnf) | ((with_reducible refine slc_e ?_); conv => whnf) | ((with_reducible refine callS_a ?_); conv => whnf) | ((with_reducible refine own_e ?_); conv => whnf) | ((with_reducible refine branch_d (fun hq => ?_) (fun hq => ?_)) <;> (try (exfalso; omega)) <;> (conv => whnf)) | ((with_reducible refine branch_e (fun hq => ?_) (fun hq => ?_)) <;> (try (exfalso; omega)) <;> (conv => whnf)) | ((with_reducible refine branch_n (fun hq => ?_) (fun hq => ?_)) <;> (try (exfalso; omega)) <;> (conv => whnf)) | ((with_reducible refine branch_i (fun hq => ?_) (fun hq => ?_)) <;> (try (exfalso; omega)) <;> (conv => whnf))))
  all_goals first
    | exact pg_err (e := 2) (by rw [pgE, if_neg (by omega), if_neg (by omega), if_pos (all_bad hcc (by rw [costB, Bool.and_eq_false_iff, decide_eq_false_iff_not, decide_eq_false_iff_not]; omega))]) (by omega)
    | (refine ⟨k + 1, ⟨by omega, fun i y hi hy => ?_⟩, le_mk ⟨rfl, rfl, rfl, by rw [Int.natCast_add]; rfl, trivial⟩ ⟨rfl, trivial⟩ rfl, by omega⟩
       by_cases e : i = k
       · subst e
         rw [hcc] at hy
         injection hy with hy
         rw [← hy, costB, Bool.and_eq_true, decide_eq_true_eq, decide_eq_true_eq]; omega
       · exact hall i y (by omega) hy)
    | (have h0 : pgE b l cs = 0 := by rw [pgE, if_neg (by omega), if_neg (by omega), if_neg (by rw [all_goodL (p := costB) (by omega) hall]; decide)]
       have hO : rowsO b l = rowsL b l := if_pos hE
       rw [hO]
       exact ret_t (rs := [progV ⟨cs, rowsL b l⟩, .int .i64 0]) ⟨.inr ⟨_, _, rfl, rfl, rc_p rfl, rc_p rfl, trivial⟩, (rc_p rfl).g, trivial⟩ (by rw [pgV, pgP, h0, if_pos rfl]))
    | trace_state
set_option maxHeartbeats 4000000 in
theorem spoil_ok (x n : Int) (hn : -1000000 ≤ n ∧ n ≤ 1000000) : Good Try.prog TT true 9 [.tape, .int .i64 x, .int .i64 n] (fun r => ∃ y, r = .int .i64 y) := by
  refine good_of mixed tabOk Try.func9 rfl rfl Try.ntmps9 Try.results9 rfl rfl ?_
  (conv => whnf); (repeat' (first | (refine arith_i ⟨by omega, by omega⟩ ?_; conv => whnf) | (refine arith_u ⟨by omega, by omega⟩ ?_; conv => whnf) | (refine arith_8 ⟨by omega, by omega⟩ ?_; conv => whnf) | (refine need_i (by first | omega | (simp only [List.length_append, List.length_cons, List.length_nil, List.length_map, List.length_replicate, List.length_modify]; omega)) ?_; conv => whnf) | ((with_reducible refine branch_tt ?_); conv => whnf) | ((with_reducible refine branch_ff ?_); conv => whnf) | (with_reducible refine branch_not ?_) | (((refine call_i (one_ok _ (by omega)) fun r hr => ?_; obtain ⟨b1, rfl⟩ := hr)); conv => whnf) | (((refine call_i wild_ok fun r hr => ?_; obtain ⟨y, rfl, hy⟩ := hr)); conv => whnf) | ((with_reducible refine slc_e ?_); conv => whnf) | ((with_reducible refine callS_a ?_); conv => whnf) | ((with_reducible refine own_e ?_); conv => whnf) | ((with_reducible refine branch_d (fun hq => ?_) (fun hq => ?_)) <;> (try (exfalso; omega)) <;> (conv => whnf)) | ((with_reducible refine branch_e (fun hq => ?_) (fun hq => ?_)) <;> (try (exfalso; omega)) <;> (conv => whnf)) | ((with_reducible refine branch_n (fun hq => ?_) (fun hq => ?_)) <;> (try (exfalso; omega)) <;> (conv => whnf)) | ((with_reducible refine branch_i (fun hq => ?_) (fun hq => ?_)) <;> (try (exfalso; omega)) <;> (conv => whnf))))
  all_goals exact ret_p rfl ⟨_, rfl⟩
theorem pgP_fits {b : Blu} {l : List Itm} {cs : List Int} (hl : l.length ≤ 1000) (hc : cs.length ≤ 1000) : Fits (pgP b l cs) := by
  unfold pgP
  split
  · next h =>
    have hE : rowsE b l = 0 := by
      unfold pgE at h
      split at h
      · omega
      · omega
    have hO : rowsO b l = rowsL b l := if_pos hE
    have := rowsO_fit (b := b) hl
    rw [hO] at this
    exact ⟨by show cs.length ≤ 1000000; omega, by show (rowsL b l).length ≤ 1000000; omega, fun r hr => by have := this.2 r hr; omega⟩
  · exact ⟨by decide, by decide, by decide⟩
theorem pgV_eq (b : Blu) (l : List Itm) (cs : List Int) : pgV b l cs = .tup [progV (pgP b l cs), .int .i64 (pgE b l cs)] := rfl
theorem itmS_snocP {l : List Itm} {x : Itm} (h : ∀ y ∈ l, ItmS y ∧ itemF y = 0) (hx : ItmS x) : ∀ y ∈ l ++ [x], ItmS y := fun y hy => by
  rcases List.mem_append.1 hy with hy | hy
  · exact (h y hy).1
  · rw [List.mem_singleton.1 hy]; exact hx
theorem snocIp {xs : List Int} {x : Int} : xs.map encI ++ [[AV.int .i64 x]] = (xs ++ [x]).map encI := by simp [encI]
theorem prog10_at {b : Blu} {l : List Itm} {cs : List Int} {es es2 : List (List AV)} (he : l.map encX = es) (he2 : cs.map encI = es2) (h1 : Short b) (hi : l.length ≤ 1000) (hs : ∀ x ∈ l, ItmS x) (h5 : FrmG b.previous) (hc : cs.length ≤ 1000) : Good Try.prog TT false 11 [bluV b, .lst 5 es, .lst 1 es2] (· = .tup [progV (pgP b l cs), .int .i64 (pgE b l cs)]) := by
  subst he2; exact program10_ok b l cs he h1 hi hs h5 hc
theorem rProg10_at {b : Blu} {l : List Itm} {cs : List Int} {es es2 : List (List AV)} (he : l.map encX = es) (he2 : cs.map encI = es2) (h1 : Short b) (hi : l.length ≤ 1000) (hs : ∀ x ∈ l, ItmS x) (h5 : FrmG b.previous) (hc : cs.length ≤ 1000) : Good Try.prog TT false 12 [bluV b, .lst 5 es, .lst 1 es2] (· = .tup [progV (pgP b l cs), .int .i64 (pgE b l cs)]) := by
  subst he2; exact rProgram10_ok b l cs he h1 hi hs h5 hc
set_option maxHeartbeats 8000000 in
theorem programs10_law (xs : List Int) (hx : xs.length ≤ 9223372036854775807) : Good Try.prog TT false 3 [ints xs] (· = .bool true) := by
  refine good_of mixed tabOk Try.func3 rfl rfl Try.ntmps3 Try.results3 rfl rfl ?_
  (conv => whnf); (repeat' (first | (refine arith_i ⟨by omega, by omega⟩ ?_; conv => whnf) | (refine arith_u ⟨by omega, by omega⟩ ?_; conv => whnf) | (refine arith_8 ⟨by omega, by omega⟩ ?_; conv => whnf) | (refine need_i (by first | omega | (simp only [List.length_append, List.length_cons, List.length_nil, List.length_map, List.length_replicate, List.length_modify]; omega)) ?_; conv => whnf) | ((with_reducible refine branch_tt ?_); conv => whnf) | ((with_reducible refine branch_ff ?_); conv => whnf) | (with_reducible refine branch_not ?_) | ((refine call_e (new_ok xs hx) ?_); conv => whnf) | (((refine call_i (blueprint_ok 8 (by omega)) fun r hr => ?_; obtain ⟨b, rfl, hb⟩ := hr)); conv => whnf) | (((refine call_i (items_ok 5 (by omega)) fun r hr => ?_; obtain ⟨l, rfl, hl, hg⟩ := hr; have LL : (l.map encX).length = l.length := List.length_map ..)); conv => whnf) | (((refine call_i (one_ok _ (by omega)) fun r hr => ?_; obtain ⟨b1, rfl⟩ := hr)); conv => whnf) | (((refine call_i (item_ok 9 1 1 (by omega) (by omega)) fun r hr => ?_; obtain ⟨x, rfl, hxg⟩ := hr)); conv => whnf) | ((with_reducible refine slc_e ?_); conv => whnf) | ((with_reducible refine callS_a ?_); conv => whnf) | ((with_reducible refine own_e ?_); conv => whnf) | ((with_reducible refine branch_d (fun hq => ?_) (fun hq => ?_)) <;> (try (exfalso; omega)) <;> (conv => whnf)) | ((with_reducible refine branch_e (fun hq => ?_) (fun hq => ?_)) <;> (try (exfalso; omega)) <;> (conv => whnf)) | ((with_reducible refine branch_n (fun hq => ?_) (fun hq => ?_)) <;> (try (exfalso; omega)) <;> (conv => whnf)) | ((with_reducible refine branch_i (fun hq => ?_) (fun hq => ?_)) <;> (try (exfalso; omega)) <;> (conv => whnf))))
  · have hL : (l ++ [x]).length ≤ 6 := by simp; omega
    have hS : ∀ y ∈ l ++ [x], ItmS y := itmS_snocP hg hxg.small
    have LM : ((l ++ [x]).map encX).length = (l ++ [x]).length := List.length_map ..
    have hb4 : [AV.int .i64 b.leastItems, .int .i64 b.mostItems, .int .i64 b.leastMarks, .int .i64 b.mostMarks, .lst 3 (List.map encRng b.topics), .lst 3 (List.map encRng b.objectives), .lst 1 (List.map encI b.required), .lst 2 (List.map encFrm b.previous), .int .i64 b.overlap] = bluC b := rfl
    have hb1 := hb.short
    have hb2 := hb.frm
    refine loop_i2 (fun (k : Nat) (cs : List Int) => k ≤ (l ++ [x]).length ∧ cs.length = k) (fun k cs => mkSt [(3, .tape), (4, .ptr 4 0), (5, .own 17 35 5 ((l ++ [x]).map encX)), (6, .own 900 3 1 (cs.map encI)), (7, .int .i64 k)] [(4, bluC b)] true) (fun k _ => (l ++ [x]).length - k) 0 [] ⟨Nat.zero_le _, rfl⟩ (Le.trans (le_adopt 6 900 3 1 rfl) (le_mk ⟨rfl, rfl, by rw [List.map_append]; rfl, rfl, rfl, trivial⟩ ⟨rfl, trivial⟩ rfl)) ?_
    rintro k cs ⟨hk, hcs⟩
    have LC : (cs.map encI).length = cs.length := List.length_map ..
    (conv => whnf); (repeat' (first | (refine arith_i ⟨by omega, by omega⟩ ?_; conv => whnf) | (refine arith_u ⟨by omega, by omega⟩ ?_; conv => whnf) | (refine arith_8 ⟨by omega, by omega⟩ ?_; conv => whnf) | (refine need_i (by first | omega | (simp only [List.length_append, List.length_cons, List.length_nil, List.length_map, List.length_replicate, List.length_modify]; omega)) ?_; conv => whnf) | ((with_reducible refine branch_tt ?_); conv => whnf) | ((with_reducible refine branch_ff ?_); conv => whnf) | (with_reducible refine branch_not ?_) | (((refine call_i (next_ok 9 (by omega)) fun r hr => ?_; obtain ⟨m3, rfl, -, h8⟩ := hr; have hm3 := h8 (by omega))); conv => whnf) | (((refine call_i (one_ok _ (by omega)) fun r hr => ?_; obtain ⟨b2, rfl⟩ := hr)); conv => whnf) | (((refine call_i (spoil_ok _ 20 (by omega)) fun r hr => ?_; obtain ⟨y, rfl⟩ := hr)); conv => whnf) | ((refine call_e (prog10_at (cs := cs) rfl rfl hb1 (by omega) hS hb2 (by omega)) ?_); conv => whnf) | ((refine call_e (rProg10_at (cs := cs) rfl rfl hb1 (by omega) hS hb2 (by omega)) ?_); conv => whnf) | ((refine call_e (prog10_at (cs := cs ++ [1]) rfl (by simp [encI]) hb1 (by omega) hS hb2 (by simp; omega)) ?_); conv => whnf) | ((refine call_e (rProg10_at (cs := cs ++ [1]) rfl (by simp [encI]) hb1 (by omega) hS hb2 (by simp; omega)) ?_); conv => whnf) | ((refine call_e (sameP_ok (pgP b (l ++ [x]) cs) (pgP_fits (by omega) (by omega))) ?_); conv => whnf) | ((refine call_e (sameP_ok (pgP b (l ++ [x]) (cs ++ [1])) (pgP_fits (by omega) (by simp; omega))) ?_); conv => whnf) | ((refine call_e awake10_ok ?_); conv => whnf) | ((with_reducible refine slc_e ?_); conv => whnf) | ((with_reducible refine callS_a ?_); conv => whnf) | ((with_reducible refine own_e ?_); conv => whnf) | ((with_reducible refine branch_d (fun hq => ?_) (fun hq => ?_)) <;> (try (exfalso; omega)) <;> (conv => whnf)) | ((with_reducible refine branch_e (fun hq => ?_) (fun hq => ?_)) <;> (try (exfalso; omega)) <;> (conv => whnf)) | ((with_reducible refine branch_n (fun hq => ?_) (fun hq => ?_)) <;> (try (exfalso; omega)) <;> (conv => whnf)) | ((with_reducible refine branch_i (fun hq => ?_) (fun hq => ?_)) <;> (try (exfalso; omega)) <;> (conv => whnf))))
    all_goals first
      | exact ret_p rfl rfl
      | (refine ⟨k + 1, cs ++ [y], ⟨by omega, by simp; omega⟩, le_mk ⟨rfl, rfl, rfl, by rw [← snocIp]; rfl, by rw [Int.natCast_add]; rfl, trivial⟩ ⟨rfl, trivial⟩ rfl, by omega⟩; done)
      | (exfalso; simp at hq; done)
  · have hL : (l).length ≤ 6 := by omega
    have hS : ∀ y ∈ l, ItmS y := fun y hy => (hg y hy).1
    have LM : ((l).map encX).length = (l).length := List.length_map ..
    have hb4 : [AV.int .i64 b.leastItems, .int .i64 b.mostItems, .int .i64 b.leastMarks, .int .i64 b.mostMarks, .lst 3 (List.map encRng b.topics), .lst 3 (List.map encRng b.objectives), .lst 1 (List.map encI b.required), .lst 2 (List.map encFrm b.previous), .int .i64 b.overlap] = bluC b := rfl
    have hb1 := hb.short
    have hb2 := hb.frm
    refine loop_i2 (fun (k : Nat) (cs : List Int) => k ≤ (l).length ∧ cs.length = k) (fun k cs => mkSt [(3, .tape), (4, .ptr 4 0), (5, .own 17 35 5 ((l).map encX)), (6, .own 900 3 1 (cs.map encI)), (7, .int .i64 k)] [(4, bluC b)] true) (fun k _ => (l).length - k) 0 [] ⟨Nat.zero_le _, rfl⟩ (Le.trans (le_adopt 6 900 3 1 rfl) (le_mk ⟨rfl, rfl, rfl, rfl, rfl, trivial⟩ ⟨rfl, trivial⟩ rfl)) ?_
    rintro k cs ⟨hk, hcs⟩
    have LC : (cs.map encI).length = cs.length := List.length_map ..
    (conv => whnf); (repeat' (first | (refine arith_i ⟨by omega, by omega⟩ ?_; conv => whnf) | (refine arith_u ⟨by omega, by omega⟩ ?_; conv => whnf) | (refine arith_8 ⟨by omega, by omega⟩ ?_; conv => whnf) | (refine need_i (by first | omega | (simp only [List.length_append, List.length_cons, List.length_nil, List.length_map, List.length_replicate, List.length_modify]; omega)) ?_; conv => whnf) | ((with_reducible refine branch_tt ?_); conv => whnf) | ((with_reducible refine branch_ff ?_); conv => whnf) | (with_reducible refine branch_not ?_) | (((refine call_i (next_ok 9 (by omega)) fun r hr => ?_; obtain ⟨m3, rfl, -, h8⟩ := hr; have hm3 := h8 (by omega))); conv => whnf) | (((refine call_i (one_ok _ (by omega)) fun r hr => ?_; obtain ⟨b2, rfl⟩ := hr)); conv => whnf) | (((refine call_i (spoil_ok _ 20 (by omega)) fun r hr => ?_; obtain ⟨y, rfl⟩ := hr)); conv => whnf) | ((refine call_e (prog10_at (cs := cs) rfl rfl hb1 (by omega) hS hb2 (by omega)) ?_); conv => whnf) | ((refine call_e (rProg10_at (cs := cs) rfl rfl hb1 (by omega) hS hb2 (by omega)) ?_); conv => whnf) | ((refine call_e (prog10_at (cs := cs ++ [1]) rfl (by simp [encI]) hb1 (by omega) hS hb2 (by simp; omega)) ?_); conv => whnf) | ((refine call_e (rProg10_at (cs := cs ++ [1]) rfl (by simp [encI]) hb1 (by omega) hS hb2 (by simp; omega)) ?_); conv => whnf) | ((refine call_e (sameP_ok (pgP b (l) cs) (pgP_fits (by omega) (by omega))) ?_); conv => whnf) | ((refine call_e (sameP_ok (pgP b (l) (cs ++ [1])) (pgP_fits (by omega) (by simp; omega))) ?_); conv => whnf) | ((refine call_e awake10_ok ?_); conv => whnf) | ((with_reducible refine slc_e ?_); conv => whnf) | ((with_reducible refine callS_a ?_); conv => whnf) | ((with_reducible refine own_e ?_); conv => whnf) | ((with_reducible refine branch_d (fun hq => ?_) (fun hq => ?_)) <;> (try (exfalso; omega)) <;> (conv => whnf)) | ((with_reducible refine branch_e (fun hq => ?_) (fun hq => ?_)) <;> (try (exfalso; omega)) <;> (conv => whnf)) | ((with_reducible refine branch_n (fun hq => ?_) (fun hq => ?_)) <;> (try (exfalso; omega)) <;> (conv => whnf)) | ((with_reducible refine branch_i (fun hq => ?_) (fun hq => ?_)) <;> (try (exfalso; omega)) <;> (conv => whnf))))
    all_goals first
      | exact ret_p rfl rfl
      | (refine ⟨k + 1, cs ++ [y], ⟨by omega, by simp; omega⟩, le_mk ⟨rfl, rfl, rfl, by rw [← snocIp]; rfl, by rw [Int.natCast_add]; rfl, trivial⟩ ⟨rfl, trivial⟩ rfl, by omega⟩; done)
      | (exfalso; simp at hq; done)
end Go.Proofs.Ytjgaacjfoaohnaa
