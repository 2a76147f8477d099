/- Layer 8: Rows, of the reference. -/
import Derived.Test.YtjgaacjfoaohnaaGL08o
namespace Go.Proofs.Ytjgaacjfoaohnaa
set_option linter.unusedVariables false
set_option linter.unusedSimpArgs false
set_option linter.unnecessarySimpa false
set_option linter.unusedSectionVars false
set_option maxRecDepth 10000
open Go.RowKit
def plGL08p_0 : Plan := (.take 0 (.take 1 (.take 2 (.take 3 (.take 4 (.take 5 (.take 6 (.take 7 (.take 8 (.take 9 (.take 10 (.alt 11 (.alt 12 .done .stop) .stop))))))))))))
def plGL08p_1 : Plan := (.take 0 (.take 1 (.take 2 (.take 3 (.take 5 (.take 6 (.take 7 (.take 8 (.alt 4 (.alt 9 (.take 10 (.alt 11 (.alt 12 .done .stop) .stop)) (.alt 11 (.alt 9 (.take 10 (.alt 12 .done .stop)) .stop) .stop)) (.alt 9 (.alt 4 (.take 10 (.alt 11 (.alt 12 .done .stop) .stop)) (.alt 11 (.alt 4 (.take 10 (.alt 12 .done .stop)) .stop) .stop)) (.alt 11 (.alt 4 (.alt 9 (.take 10 (.alt 12 .done .stop)) .stop) (.alt 9 (.alt 4 (.take 10 (.alt 12 .done .stop)) .stop) .stop)) .stop)))))))))))
def plGL08p_2 : Plan := (.take 0 (.take 1 (.take 2 (.take 3 (.take 4 (.take 5 (.take 6 (.take 7 (.take 8 (.take 9 (.take 10 (.take 11 (.alt 12 (.alt 13 (.alt 14 (.take 15 (.alt 16 .done .stop)) .stop) .stop) .stop)))))))))))))
def plGL08p_3 : Plan := (.take 0 (.take 1 (.take 2 (.take 3 (.take 4 (.take 6 (.take 7 (.take 8 (.take 9 (.take 11 (.alt 5 (.alt 10 (.alt 12 (.alt 13 (.alt 14 (.take 15 (.alt 16 .done .stop)) .stop) .stop) .stop) .stop) (.alt 10 (.alt 5 (.alt 12 (.alt 13 (.alt 14 (.take 15 (.alt 16 .done .stop)) .stop) .stop) .stop) .stop) .stop))))))))))))
def plGL08p_4 : Plan := (.take 0 (.take 2 (.take 3 (.take 4 (.take 6 (.take 7 (.take 8 (.take 9 (.take 11 (.alt 1 (.alt 5 (.alt 10 (.alt 12 (.alt 13 (.alt 14 (.take 15 (.alt 16 .done .stop)) .stop) .stop) .stop) .stop) (.alt 10 (.alt 5 (.alt 12 (.alt 13 (.alt 14 (.take 15 (.alt 16 .done .stop)) .stop) .stop) .stop) .stop) .stop)) (.alt 5 (.alt 1 (.alt 10 (.alt 12 (.alt 13 (.alt 14 (.take 15 (.alt 16 .done .stop)) .stop) .stop) .stop) .stop) (.alt 10 (.alt 1 (.alt 12 (.alt 13 (.alt 14 (.take 15 (.alt 16 .done .stop)) .stop) .stop) .stop) (.alt 12 (.alt 1 (.alt 13 (.alt 14 (.take 15 (.alt 16 .done .stop)) .stop) .stop) (.alt 13 (.alt 1 (.alt 14 (.take 15 (.alt 16 .done .stop)) .stop) .stop) .stop)) .stop)) .stop)) (.alt 10 (.alt 1 (.alt 5 (.alt 12 (.alt 13 (.alt 14 (.take 15 (.alt 16 .done .stop)) .stop) .stop) .stop) .stop) (.alt 5 (.alt 1 (.alt 12 (.alt 13 (.alt 14 (.take 15 (.alt 16 .done .stop)) .stop) .stop) .stop) (.alt 12 (.alt 1 (.alt 13 (.alt 14 (.take 15 (.alt 16 .done .stop)) .stop) .stop) (.alt 13 (.alt 1 (.alt 14 (.take 15 (.alt 16 .done .stop)) .stop) .stop) .stop)) .stop)) .stop)) .stop))))))))))))
def plGL08p_5 : Plan := (.take 0 (.take 2 (.take 3 (.take 4 (.take 6 (.take 7 (.take 8 (.take 9 (.take 11 (.alt 1 (.alt 5 (.alt 10 (.altM 12 (.alt 13 (.alt 14 (.take 15 (.alt 16 .done .stop)) .stop) .stop) .stop) .stop) (.alt 10 (.alt 5 (.altM 12 (.alt 13 (.alt 14 (.take 15 (.alt 16 .done .stop)) .stop) .stop) .stop) .stop) .stop)) (.alt 5 (.alt 1 (.alt 10 (.altM 12 (.alt 13 (.alt 14 (.take 15 (.alt 16 .done .stop)) .stop) .stop) .stop) .stop) (.alt 10 (.alt 1 (.altM 12 (.alt 13 (.alt 14 (.take 15 (.alt 16 .done .stop)) .stop) .stop) .stop) (.altM 12 (.alt 1 (.alt 13 (.alt 14 (.take 15 (.alt 16 .done .stop)) .stop) .stop) (.alt 13 (.alt 1 (.alt 14 (.take 15 (.alt 16 .done .stop)) .stop) .stop) .stop)) .stop)) .stop)) (.alt 10 (.alt 1 (.alt 5 (.altM 12 (.alt 13 (.alt 14 (.take 15 (.alt 16 .done .stop)) .stop) .stop) .stop) .stop) (.alt 5 (.alt 1 (.altM 12 (.alt 13 (.alt 14 (.take 15 (.alt 16 .done .stop)) .stop) .stop) .stop) (.altM 12 (.alt 1 (.alt 13 (.alt 14 (.take 15 (.alt 16 .done .stop)) .stop) .stop) (.alt 13 (.alt 1 (.alt 14 (.take 15 (.alt 16 .done .stop)) .stop) .stop) .stop)) .stop)) .stop)) .stop))))))))))))
/-- One more row, one more number. -/
theorem snocA {α : Type} {t e z : Nat} {A : List (List AV)} {l : List α} {f : α → List AV} {k : Nat} {x : α} (h : l[k]? = some x) : AV.own t e z (A ++ (l.take k).map f ++ [f x]) = AV.own t e z (A ++ (l.take (k + 1)).map f) := by
  rw [List.take_add_one, h]
  simp
theorem snocB {α : Type} {t e z : Nat} {l : List α} {f : α → List AV} {k : Nat} {x : α} (h : l[k]? = some x) : AV.own t e z ((l.take k).map f ++ [f x]) = AV.own t e z ((l.take (k + 1)).map f) := by
  rw [List.take_add_one, h]
  simp
/-- A number of each item, as cells. -/
def cellsV (v : Itm → Int) (x : Itm) : List AV := [.int .i64 (v x)]
theorem cellsV_map {v : Itm → Int} {l : List Itm} : l.map (cellsV v) = (l.map v).map encI := by simp [cellsV, encI]
theorem rowRet {t e : Nat} {l : List Itm} {v : Itm → Int} {a b : Int} : [AV.lst 1 (l.map (cellsV v)), .int .i64 a, .int .i64 b] = encRow ⟨l.map v, a, b⟩ := by rw [cellsV_map]; rfl
def sumC (t : Bool) (items : List Itm) (r : Rng) : List AV := [AV.lst 1 (items.map (cellsV (marksF t r.index))), .int .i64 r.least, .int .i64 r.most]
theorem sumC_eq {t : Bool} {items : List Itm} {r : Rng} : sumC t items r = encRow (rowT t items r) := rowRet (t := 0) (e := 0)
set_option maxHeartbeats 4000000 in
theorem rSums_ok (l : List Rng) (items : List Itm) (t : Bool) (h12 : items.length ≤ 12) (hl : l.length ≤ 16) (h0 : ∀ x ∈ items, itemF x = 0) : Good Try.prog TT false 48 [rngsV l, itmsV items, .bool t] (· = .own 0 69 3 ((l.map (rowT t items)).map encRow)) := by
  have LI : (items.map encX).length = items.length := List.length_map ..
  have LL : (l.map encRng).length = l.length := List.length_map ..
  refine good_of mixed tabOk Try.func48 rfl rfl Try.ntmps48 Try.results48 rfl rfl ?_
  (conv => whnf); (repeat' (first | (refine arith_i ⟨by omega, by omega⟩ ?_; conv => whnf) | (refine arith_u ⟨by omega, by omega⟩ ?_; conv => whnf) | (refine arith_8 ⟨by omega, by omega⟩ ?_; conv => whnf) | (refine need_i (by first | omega | (simp only [List.length_append, List.length_cons, List.length_nil, List.length_map, List.length_replicate, List.length_modify]; omega)) ?_; conv => whnf) | ((with_reducible refine branch_tt ?_); conv => whnf) | ((with_reducible refine branch_ff ?_); conv => whnf) | (with_reducible refine branch_not ?_) | ((with_reducible refine slc_e ?_); conv => whnf) | ((with_reducible refine callS_a ?_); conv => whnf) | ((with_reducible refine own_e ?_); conv => whnf) | (refine draw_i 12 plGL08p_0 (by decide +kernel) ?_; (conv => whnf); fail_if_success (guard_target =~ False)) | (refine draw_i 12 plGL08p_1 (by decide +kernel) ?_; (conv => whnf); fail_if_success (guard_target =~ False)) | (refine draw_i 16 plGL08p_2 (by decide +kernel) ?_; (conv => whnf); fail_if_success (guard_target =~ False)) | (refine draw_i 16 plGL08p_3 (by decide +kernel) ?_; (conv => whnf); fail_if_success (guard_target =~ False)) | (refine draw_i 16 plGL08p_4 (by decide +kernel) ?_; (conv => whnf); fail_if_success (guard_target =~ False)) | ((with_reducible refine And.intro ?_ ?_) <;> (conv => whnf)) | (with_reducible exact trivial) | ((with_reducible refine branch_d (fun hq => ?_) (fun hq => ?_)) <;> (try (exfalso; omega)) <;> (conv => whnf)) | ((with_reducible refine branch_e (fun hq => ?_) (fun hq => ?_)) <;> (try (exfalso; omega)) <;> (conv => whnf)) | ((with_reducible refine branch_n (fun hq => ?_) (fun hq => ?_)) <;> (try (exfalso; omega)) <;> (conv => whnf)) | ((with_reducible refine branch_i (fun hq => ?_) (fun hq => ?_)) <;> (try (exfalso; omega)) <;> (conv => whnf))))
  refine loop_i (fun k : Nat => k ≤ l.length) (fun k => mkSt [(0, rngsV l), (1, itmsV items), (2, .bool t), (7, .own 900 69 3 ((l.take k).map (sumC t items))), (8, .int .i64 k)] [] false) (fun k => l.length - k) 0 (Nat.zero_le _) (Le.trans (le_adopt 7 900 69 3 rfl) (le_mk (by repeat' (first | exact trivial | rfl | apply And.intro)) (by repeat' (first | exact trivial | rfl | apply And.intro)) rfl)) ?_
  intro k hk
  (conv => whnf); (repeat' (first | (refine arith_i ⟨by omega, by omega⟩ ?_; conv => whnf) | (refine arith_u ⟨by omega, by omega⟩ ?_; conv => whnf) | (refine arith_8 ⟨by omega, by omega⟩ ?_; conv => whnf) | (refine need_i (by first | omega | (simp only [List.length_append, List.length_cons, List.length_nil, List.length_map, List.length_replicate, List.length_modify]; omega)) ?_; conv => whnf) | ((with_reducible refine branch_tt ?_); conv => whnf) | ((with_reducible refine branch_ff ?_); conv => whnf) | (with_reducible refine branch_not ?_) | ((refine idx_cs (by assumption) ?_); conv => whnf) | (((refine idx_c (xs := l) (by omega) fun r hr => ?_)); conv => whnf) | ((with_reducible refine slc_e ?_); conv => whnf) | ((with_reducible refine callS_a ?_); conv => whnf) | ((with_reducible refine own_e ?_); conv => whnf) | (refine draw_i 12 plGL08p_0 (by decide +kernel) ?_; (conv => whnf); fail_if_success (guard_target =~ False)) | (refine draw_i 12 plGL08p_1 (by decide +kernel) ?_; (conv => whnf); fail_if_success (guard_target =~ False)) | (refine draw_i 16 plGL08p_2 (by decide +kernel) ?_; (conv => whnf); fail_if_success (guard_target =~ False)) | (refine draw_i 16 plGL08p_3 (by decide +kernel) ?_; (conv => whnf); fail_if_success (guard_target =~ False)) | (refine draw_i 16 plGL08p_4 (by decide +kernel) ?_; (conv => whnf); fail_if_success (guard_target =~ False)) | ((with_reducible refine And.intro ?_ ?_) <;> (conv => whnf)) | (with_reducible exact trivial) | ((with_reducible refine branch_d (fun hq => ?_) (fun hq => ?_)) <;> (try (exfalso; omega)) <;> (conv => whnf)) | ((with_reducible refine branch_e (fun hq => ?_) (fun hq => ?_)) <;> (try (exfalso; omega)) <;> (conv => whnf)) | ((with_reducible refine branch_n (fun hq => ?_) (fun hq => ?_)) <;> (try (exfalso; omega)) <;> (conv => whnf)) | ((with_reducible refine branch_i (fun hq => ?_) (fun hq => ?_)) <;> (try (exfalso; omega)) <;> (conv => whnf))))
  · refine loop_i (fun j : Nat => j ≤ items.length) (fun j => mkSt [(0, rngsV l), (1, itmsV items), (2, .bool t), (7, .own 900 69 3 ((l.take k).map (sumC t items))), (8, .int .i64 k), (9, .ptr 9 0), (10, .int .i64 j)] [(9, [.own 901 3 1 ((items.take j).map (cellsV (marksF t r.index))), .int .i64 r.least, .int .i64 r.most])] false) (fun j => items.length - j) 0 (Nat.zero_le _) (Le.trans (le_adoptBox 9 0 901 3 1 rfl rfl) (le_mk (by repeat' (first | exact trivial | rfl | apply And.intro)) (by repeat' (first | exact trivial | rfl | apply And.intro)) rfl)) ?_
    intro j hj
    have LJ : ((items.take j).map (cellsV (marksF t r.index))).length = j := by simp; omega
    have LJ2 : (items.take j).length = j := by simp; omega
    have LK2 : (l.take k).length = k := by simp; omega
    have LK : ((l.take k).map (sumC t items)).length = k := by simp; omega
    (conv => whnf); (repeat' (first | (refine arith_i ⟨by omega, by omega⟩ ?_; conv => whnf) | (refine arith_u ⟨by omega, by omega⟩ ?_; conv => whnf) | (refine arith_8 ⟨by omega, by omega⟩ ?_; conv => whnf) | (refine need_i (by first | omega | (simp only [List.length_append, List.length_cons, List.length_nil, List.length_map, List.length_replicate, List.length_modify]; omega)) ?_; conv => whnf) | ((with_reducible refine branch_tt ?_); conv => whnf) | ((with_reducible refine branch_ff ?_); conv => whnf) | (with_reducible refine branch_not ?_) | ((refine idx_cs (by assumption) ?_); conv => whnf) | (((refine idx_c (xs := items) (by omega) fun x hx => ?_; have hsn := snocB (t := 901) (e := 3) (z := 1) (f := cellsV (marksF t r.index)) hx)); conv => whnf) | ((refine call_e (rMarks_ok x r.index t (h0 x (List.mem_of_getElem? hx))) ?_); conv => whnf) | ((with_reducible refine slc_e ?_); conv => whnf) | ((with_reducible refine callS_a ?_); conv => whnf) | ((with_reducible refine own_e ?_); conv => whnf) | (refine draw_i 12 plGL08p_0 (by decide +kernel) ?_; (conv => whnf); fail_if_success (guard_target =~ False)) | (refine draw_i 12 plGL08p_1 (by decide +kernel) ?_; (conv => whnf); fail_if_success (guard_target =~ False)) | (refine draw_i 16 plGL08p_2 (by decide +kernel) ?_; (conv => whnf); fail_if_success (guard_target =~ False)) | (refine draw_i 16 plGL08p_3 (by decide +kernel) ?_; (conv => whnf); fail_if_success (guard_target =~ False)) | (refine draw_i 16 plGL08p_4 (by decide +kernel) ?_; (conv => whnf); fail_if_success (guard_target =~ False)) | ((with_reducible refine And.intro ?_ ?_) <;> (conv => whnf)) | (with_reducible exact trivial) | ((with_reducible refine branch_d (fun hq => ?_) (fun hq => ?_)) <;> (try (exfalso; omega)) <;> (conv => whnf)) | ((with_reducible refine branch_e (fun hq => ?_) (fun hq => ?_)) <;> (try (exfalso; omega)) <;> (conv => whnf)) | ((with_reducible refine branch_n (fun hq => ?_) (fun hq => ?_)) <;> (try (exfalso; omega)) <;> (conv => whnf)) | ((with_reducible refine branch_i (fun hq => ?_) (fun hq => ?_)) <;> (try (exfalso; omega)) <;> (conv => whnf))))
    all_goals first
      | exact ⟨j + 1, by omega, le_mk ⟨rfl, rfl, rfl, rfl, rfl, rfl, rfl, trivial⟩ ⟨by rw [← hsn]; rfl, trivial⟩ rfl, by omega⟩
      | (have hsn := snocB (t := 900) (e := 69) (z := 3) (f := sumC t items) hr
         have hii : items.take j = items := List.take_of_length_le (by omega)
         rw [hii]
         exact ⟨k + 1, by omega, le_mk ⟨rfl, rfl, rfl, hsn, rfl, trivial⟩ trivial rfl, by omega⟩)
      | trace_state
  · refine ret_o ?_
    rw [List.take_of_length_le (by omega), List.map_map]
    exact congrArg (AV.own 0 69 3) (List.map_congr_left fun r _ => sumC_eq)
def rowsA (b : Blu) (items : List Itm) : List Row := [row1 b items, row2 b items] ++ b.topics.map (rowT true items) ++ b.objectives.map (rowT false items)
theorem rowsA_len {b : Blu} {items : List Itm} : (rowsA b items).length = 2 + b.topics.length + b.objectives.length := by simp [rowsA]; omega
def reqC (items : List Itm) (id : Int) : List AV := [AV.lst 1 (items.map (cellsV fun x => oneF (decide (x.id = id)))), .int .i64 1, .int .i64 1]
theorem reqC_eq {items : List Itm} {id : Int} : reqC items id = encRow (rowR items id) := rowRet (t := 0) (e := 0)
theorem out2 {b : Blu} {items : List Itm} {t e : Nat} {α : Type} {l : List α} {f : α → List AV} : AV.own t e 3 ([[.lst 1 (items.map (cellsV fun _ => 1)), .int .i64 b.leastItems, .int .i64 b.mostItems], [.lst 1 (items.map (cellsV totalF)), .int .i64 b.leastMarks, .int .i64 b.mostMarks]] ++ (b.topics.map (rowT true items)).map encRow ++ (b.objectives.map (rowT false items)).map encRow) = AV.own t e 3 ((rowsA b items).map encRow ++ (l.take 0).map f) := by
  rw [rowRet (t := 0) (e := 0), rowRet (t := 0) (e := 0), rowsA, List.map_append, List.map_append]
  simp [row1, row2]
def rowsB (b : Blu) (items : List Itm) : List Row := rowsA b items ++ b.required.map (rowR items)
theorem rowsB_len {b : Blu} {items : List Itm} : (rowsB b items).length = 2 + b.topics.length + b.objectives.length + b.required.length := by simp [rowsB, rowsA]; omega
theorem req_map {items : List Itm} {l : List Int} : l.map (reqC items) = (l.map (rowR items)).map encRow := by rw [List.map_map]; exact List.map_congr_left fun x _ => reqC_eq
theorem out3 {b : Blu} {items : List Itm} {t e : Nat} : AV.own t e 3 ((rowsA b items).map encRow ++ b.required.map (reqC items)) = AV.own t e 3 ((rowsB b items).map encRow ++ ([] : List Row).map encRow) := by
  rw [req_map, rowsB, List.map_append, List.map_nil, List.append_nil]
def pairK (i j : Nat) (q : Nat) : List AV := [.int .i64 (if q = i ∨ q = j then 1 else 0)]
theorem pairK_eq {n i j : Nat} : [AV.lst 1 ((List.range n).map (pairK i j)), .int .i64 0, .int .i64 1] = encRow (pairRow n i j) := by
  rw [encRow, pairRow]
  show _ = [AV.lst 1 (List.map encI _), _, _]
  rw [List.map_map]
  rfl
theorem snocK {t e n i j : Nat} : AV.own t e 1 ((List.range n).map (pairK i j) ++ [pairK i j n]) = AV.own t e 1 ((List.range (n + 1)).map (pairK i j)) := by
  rw [List.range_succ, List.map_append]; rfl
theorem snocP {t e : Nat} {A : List (List AV)} {rs : List Row} {r : Row} : AV.own t e 3 (A ++ rs.map encRow ++ [encRow r]) = AV.own t e 3 (A ++ (rs ++ [r]).map encRow) := by simp
theorem snocK' {t e n i j : Nat} {b : Bool} (h : b = decide (n = i ∨ n = j)) : AV.own t e 1 ((List.range n).map (pairK i j) ++ [[.int .i64 (oneF b)]]) = AV.own t e 1 ((List.range (n + 1)).map (pairK i j)) := by
  rw [← snocK, pairK, h]
  by_cases hh : n = i ∨ n = j <;> simp [hh, oneF]
def rowsC (b : Blu) (items : List Itm) : List Row := rowsB b items ++ pairsF items
def prvC (o : Int) (items : List Itm) (f : Frm) : List AV := [AV.lst 1 (items.map (cellsV fun x => oneF (usesB f x))), .int .i64 0, .int .i64 o]
theorem prvC_eq {o : Int} {items : List Itm} {f : Frm} : prvC o items f = encRow (rowP o items f) := rowRet (t := 0) (e := 0)
theorem out4 {b : Blu} {items : List Itm} {t e : Nat} {α : Type} {l : List α} {f : α → List AV} : AV.own t e 3 ((rowsB b items).map encRow ++ (pairsF items).map encRow) = AV.own t e 3 ((rowsC b items).map encRow ++ (l.take 0).map f) := by
  rw [rowsC, List.map_append]; simp
theorem out5 {b : Blu} {items : List Itm} {t e : Nat} : AV.own t e 3 ((rowsC b items).map encRow ++ b.previous.map (prvC b.overlap items)) = AV.own t e 3 ((rowsL b items).map encRow) := by
  have : b.previous.map (prvC b.overlap items) = (b.previous.map (rowP b.overlap items)).map encRow := by rw [List.map_map]; exact List.map_congr_left fun x _ => prvC_eq
  rw [this, ← List.map_append]
  rfl
end Go.Proofs.Ytjgaacjfoaohnaa
