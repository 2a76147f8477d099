/- Layer 6: items: valid parts, texts, enemies; Check, Total, Enemy, of the program and of the reference. -/
import Derived.Test.YtjgaacjfoaohnaaGL00
import Derived.Test.YtjgaacjfoaohnaaGTape2
namespace Go.Proofs.Ytjgaacjfoaohnaa
set_option linter.unusedVariables false
set_option linter.unusedSimpArgs false
set_option linter.unnecessarySimpa false
set_option linter.unusedSectionVars false
set_option maxRecDepth 10000
open Go.RowKit
def plGL06a_0 : Plan := (.take 0 (.take 1 (.take 2 (.take 3 (.take 4 (.take 5 (.take 6 (.take 7 (.take 8 (.take 9 (.take 10 (.take 11 (.take 12 (.take 13 (.take 14 (.take 15 (.take 16 (.take 17 (.take 18 (.take 19 (.take 20 (.take 21 (.take 22 (.take 23 (.take 24 (.take 25 (.take 26 (.take 27 (.take 28 (.take 29 (.take 30 (.take 31 (.take 32 (.take 33 (.take 34 (.take 35 (.take 36 (.take 37 (.take 38 (.take 39 (.take 40 (.take 41 .done))))))))))))))))))))))))))))))))))))))))))
def plGL06a_1 : Plan := (.take 0 (.take 1 (.take 2 (.take 3 (.alt 4 (.take 5 (.take 6 (.take 7 (.take 9 (.alt 8 (.take 10 (.alt 11 (.take 12 (.take 13 (.take 14 (.take 15 (.take 17 (.take 20 (.alt 16 (.take 18 (.alt 19 (.alt 21 (.take 22 (.take 23 (.take 24 (.take 25 (.take 26 (.take 27 (.take 28 (.take 30 (.take 31 (.take 34 (.take 36 (.alt 29 (.take 32 (.alt 33 (.alt 35 (.take 37 (.alt 38 (.take 39 (.take 40 (.take 41 .done))) .stop)) .stop) (.alt 35 (.take 37 (.alt 33 (.alt 38 (.take 39 (.take 40 (.take 41 .done))) .stop) (.alt 38 (.alt 33 (.take 39 (.take 40 (.take 41 .done))) .stop) .stop))) .stop))) (.alt 35 (.take 37 (.alt 29 (.take 32 (.alt 33 (.alt 38 (.take 39 (.take 40 (.take 41 .done))) .stop) (.alt 38 (.alt 33 (.take 39 (.take 40 (.take 41 .done))) .stop) .stop))) (.alt 38 (.alt 29 (.take 32 (.alt 33 (.take 39 (.take 40 (.take 41 .done))) .stop)) .stop) .stop))) .stop))))))))))))) .stop) (.alt 21 (.alt 19 (.take 22 (.take 23 (.take 24 (.take 25 (.take 26 (.take 27 (.take 28 (.take 30 (.take 31 (.take 34 (.take 36 (.alt 29 (.take 32 (.alt 33 (.alt 35 (.take 37 (.alt 38 (.take 39 (.take 40 (.take 41 .done))) .stop)) .stop) (.alt 35 (.take 37 (.alt 33 (.alt 38 (.take 39 (.take 40 (.take 41 .done))) .stop) (.alt 38 (.alt 33 (.take 39 (.take 40 (.take 41 .done))) .stop) .stop))) .stop))) (.alt 35 (.take 37 (.alt 29 (.take 32 (.alt 33 (.alt 38 (.take 39 (.take 40 (.take 41 .done))) .stop) (.alt 38 (.alt 33 (.take 39 (.take 40 (.take 41 .done))) .stop) .stop))) (.alt 38 (.alt 29 (.take 32 (.alt 33 (.take 39 (.take 40 (.take 41 .done))) .stop)) .stop) .stop))) .stop))))))))))))) .stop) .stop))) (.alt 21 (.alt 16 (.take 18 (.alt 19 (.take 22 (.take 23 (.take 24 (.take 25 (.take 26 (.take 27 (.take 28 (.take 30 (.take 31 (.take 34 (.take 36 (.alt 29 (.take 32 (.alt 33 (.alt 35 (.take 37 (.alt 38 (.take 39 (.take 40 (.take 41 .done))) .stop)) .stop) (.alt 35 (.take 37 (.alt 33 (.alt 38 (.take 39 (.take 40 (.take 41 .done))) .stop) (.alt 38 (.alt 33 (.take 39 (.take 40 (.take 41 .done))) .stop) .stop))) .stop))) (.alt 35 (.take 37 (.alt 29 (.take 32 (.alt 33 (.alt 38 (.take 39 (.take 40 (.take 41 .done))) .stop) (.alt 38 (.alt 33 (.take 39 (.take 40 (.take 41 .done))) .stop) .stop))) (.alt 38 (.alt 29 (.take 32 (.alt 33 (.take 39 (.take 40 (.take 41 .done))) .stop)) .stop) .stop))) .stop))))))))))))) .stop)) .stop) .stop)))))))) .stop)) .stop))))) .stop)))))
def plGL06a_2 : Plan := (.take 0 (.take 2 (.alt 1 (.take 3 (.alt 4 (.take 5 (.take 6 (.take 7 (.take 9 (.alt 8 (.take 10 (.alt 11 (.take 12 (.take 13 (.take 14 (.take 15 (.take 17 (.take 20 (.alt 16 (.take 18 (.alt 19 (.alt 21 (.take 22 (.take 23 (.take 24 (.take 25 (.take 26 (.take 27 (.take 28 (.take 30 (.take 31 (.take 34 (.take 36 (.alt 29 (.take 32 (.alt 33 (.alt 35 (.take 37 (.alt 38 (.take 39 (.take 40 (.take 41 .done))) .stop)) .stop) (.alt 35 (.take 37 (.alt 33 (.alt 38 (.take 39 (.take 40 (.take 41 .done))) .stop) (.alt 38 (.alt 33 (.take 39 (.take 40 (.take 41 .done))) .stop) .stop))) .stop))) (.alt 35 (.take 37 (.alt 29 (.take 32 (.alt 33 (.alt 38 (.take 39 (.take 40 (.take 41 .done))) .stop) (.alt 38 (.alt 33 (.take 39 (.take 40 (.take 41 .done))) .stop) .stop))) (.alt 38 (.alt 29 (.take 32 (.alt 33 (.take 39 (.take 40 (.take 41 .done))) .stop)) .stop) .stop))) .stop))))))))))))) .stop) (.alt 21 (.alt 19 (.take 22 (.take 23 (.take 24 (.take 25 (.take 26 (.take 27 (.take 28 (.take 30 (.take 31 (.take 34 (.take 36 (.alt 29 (.take 32 (.alt 33 (.alt 35 (.take 37 (.alt 38 (.take 39 (.take 40 (.take 41 .done))) .stop)) .stop) (.alt 35 (.take 37 (.alt 33 (.alt 38 (.take 39 (.take 40 (.take 41 .done))) .stop) (.alt 38 (.alt 33 (.take 39 (.take 40 (.take 41 .done))) .stop) .stop))) .stop))) (.alt 35 (.take 37 (.alt 29 (.take 32 (.alt 33 (.alt 38 (.take 39 (.take 40 (.take 41 .done))) .stop) (.alt 38 (.alt 33 (.take 39 (.take 40 (.take 41 .done))) .stop) .stop))) (.alt 38 (.alt 29 (.take 32 (.alt 33 (.take 39 (.take 40 (.take 41 .done))) .stop)) .stop) .stop))) .stop))))))))))))) .stop) .stop))) (.alt 21 (.alt 16 (.take 18 (.alt 19 (.take 22 (.take 23 (.take 24 (.take 25 (.take 26 (.take 27 (.take 28 (.take 30 (.take 31 (.take 34 (.take 36 (.alt 29 (.take 32 (.alt 33 (.alt 35 (.take 37 (.alt 38 (.take 39 (.take 40 (.take 41 .done))) .stop)) .stop) (.alt 35 (.take 37 (.alt 33 (.alt 38 (.take 39 (.take 40 (.take 41 .done))) .stop) (.alt 38 (.alt 33 (.take 39 (.take 40 (.take 41 .done))) .stop) .stop))) .stop))) (.alt 35 (.take 37 (.alt 29 (.take 32 (.alt 33 (.alt 38 (.take 39 (.take 40 (.take 41 .done))) .stop) (.alt 38 (.alt 33 (.take 39 (.take 40 (.take 41 .done))) .stop) .stop))) (.alt 38 (.alt 29 (.take 32 (.alt 33 (.take 39 (.take 40 (.take 41 .done))) .stop)) .stop) .stop))) .stop))))))))))))) .stop)) .stop) .stop)))))))) .stop)) .stop))))) .stop)) .stop)))
structure Prt where
  kind : Int
  max : Int
  topic : Int
  obj : Int
  opts : Int
  key : Int
def encPt (p : Prt) : List AV := [.int .i64 p.kind, .int .i64 p.max, .int .i64 p.topic, .int .i64 p.obj, .int .i64 p.opts, .int .i64 p.key]
structure Itm where
  id : Int
  ver : Int
  stem : ByteArray
  parts : List Prt
  foes : List Int
def encX (x : Itm) : List AV := [.int .i64 x.id, .int .i64 x.ver, .str x.stem, .lst 6 (x.parts.map encPt), ints x.foes]
def itmV (x : Itm) : AV := .agg (encX x)
def itmsV (l : List Itm) : AV := .lst 5 (l.map encX)
def vPartB (p : Prt) : Bool := decide (1 ≤ p.max ∧ p.max ≤ 40 ∧ 0 ≤ p.topic ∧ p.topic < 16 ∧ 0 ≤ p.obj ∧ p.obj < 6 ∧ ((p.kind = 1 ∧ p.opts = 0 ∧ p.key = 0) ∨ (p.kind = 2 ∧ 2 ≤ p.opts ∧ p.opts ≤ 5 ∧ 0 ≤ p.key ∧ p.key < p.opts)))
set_option maxHeartbeats 2000000 in
theorem vPart_ok (p : Prt) : Good Try.prog TT false 65 [.agg (encPt p)] (· = .bool (vPartB p)) := by
  refine good_of mixed tabOk Try.func65 rfl rfl Try.ntmps65 Try.results65 rfl rfl ?_
  (conv => whnf); (repeat' (first | (refine arith_i ⟨by omega, by omega⟩ ?_; conv => whnf) | (refine arith_u ⟨by omega, by omega⟩ ?_; conv => whnf) | (refine arith_8 ⟨by omega, by omega⟩ ?_; conv => whnf) | (refine need_i (by first | omega | (simp only [List.length_append, List.length_cons, List.length_nil, List.length_map, List.length_replicate, List.length_modify]; omega)) ?_; conv => whnf) | ((with_reducible refine branch_tt ?_); conv => whnf) | ((with_reducible refine branch_ff ?_); conv => whnf) | (with_reducible refine branch_not ?_) | ((with_reducible refine slc_e ?_); conv => whnf) | ((with_reducible refine callS_a ?_); conv => whnf) | ((with_reducible refine own_e ?_); conv => whnf) | ((with_reducible refine branch_d (fun hq => ?_) (fun hq => ?_)) <;> (try (exfalso; omega)) <;> (conv => whnf)) | ((with_reducible refine branch_e (fun hq => ?_) (fun hq => ?_)) <;> (try (exfalso; omega)) <;> (conv => whnf)) | ((with_reducible refine branch_n (fun hq => ?_) (fun hq => ?_)) <;> (try (exfalso; omega)) <;> (conv => whnf)) | ((with_reducible refine branch_i (fun hq => ?_) (fun hq => ?_)) <;> (try (exfalso; omega)) <;> (conv => whnf))))
  all_goals first
    | exact ret_p rfl (bool_eq (by symm; exact decide_eq_true (by omega)))
    | exact ret_p rfl (bool_eq (by symm; exact decide_eq_false (by omega)))
    | (refine ret_p rfl (bool_eq ?_); rw [vPartB, Bool.eq_iff_iff]; simp only [decide_eq_true_eq, beq_iff_eq]; omega)
    | trace_state
set_option maxHeartbeats 2000000 in
theorem rPart_ok (p : Prt) : Good Try.prog TT false 72 [.agg (encPt p)] (· = .bool (vPartB p)) := by
  refine good_of mixed tabOk Try.func72 rfl rfl Try.ntmps72 Try.results72 rfl rfl ?_
  (conv => whnf); (repeat' (first | (refine arith_i ⟨by omega, by omega⟩ ?_; conv => whnf) | (refine arith_u ⟨by omega, by omega⟩ ?_; conv => whnf) | (refine arith_8 ⟨by omega, by omega⟩ ?_; conv => whnf) | (refine need_i (by first | omega | (simp only [List.length_append, List.length_cons, List.length_nil, List.length_map, List.length_replicate, List.length_modify]; omega)) ?_; conv => whnf) | ((with_reducible refine branch_tt ?_); conv => whnf) | ((with_reducible refine branch_ff ?_); conv => whnf) | (with_reducible refine branch_not ?_) | ((with_reducible refine slc_e ?_); conv => whnf) | ((with_reducible refine callS_a ?_); conv => whnf) | ((with_reducible refine own_e ?_); conv => whnf) | ((with_reducible refine branch_d (fun hq => ?_) (fun hq => ?_)) <;> (try (exfalso; omega)) <;> (conv => whnf)) | ((with_reducible refine branch_e (fun hq => ?_) (fun hq => ?_)) <;> (try (exfalso; omega)) <;> (conv => whnf)) | ((with_reducible refine branch_n (fun hq => ?_) (fun hq => ?_)) <;> (try (exfalso; omega)) <;> (conv => whnf)) | ((with_reducible refine branch_i (fun hq => ?_) (fun hq => ?_)) <;> (try (exfalso; omega)) <;> (conv => whnf))))
  all_goals first
    | exact ret_p rfl (bool_eq (by symm; exact decide_eq_true (by omega)))
    | exact ret_p rfl (bool_eq (by symm; exact decide_eq_false (by omega)))
    | (refine ret_p rfl (bool_eq ?_); rw [vPartB, Bool.eq_iff_iff]; simp only [decide_eq_true_eq, beq_iff_eq]; omega)
    | trace_state
def prB (b : UInt8) : Bool := decide (32 ≤ (b.toNat : Int) ∧ (b.toNat : Int) ≤ 126)
def printB (s : ByteArray) : Bool := (List.range s.size).all fun i => match s[i]? with | some b => prB b | none => true
theorem print_bad {s : ByteArray} {i : Nat} {b : UInt8} (hi : s[i]? = some b) (hb : prB b = false) : printB s = false := by
  have hlt : i < s.size := by
    rcases Nat.lt_or_ge i s.size with h | h
    · exact h
    · simp [h] at hi
  unfold printB
  rw [List.all_eq_false]
  exact ⟨i, List.mem_range.2 hlt, by rw [hi]; simp [hb]⟩
theorem print_good {s : ByteArray} (h : ∀ i b, i < s.size → s[i]? = some b → prB b = true) : printB s = true := by
  unfold printB
  simp only [List.all_eq_true, List.mem_range]
  intro i hi
  split
  · next b hb => exact h i b hi hb
  · rfl
theorem byteAt' {s : ByteArray} {i : Nat} (h : i < s.size) : s[(i : Int).toNat]? = some s[i] := by
  rw [Int.toNat_natCast]
  exact getElem?_pos s i h
set_option maxHeartbeats 2000000 in
theorem printable_ok (s : ByteArray) (hs : s.size ≤ 1000000) : Good Try.prog TT false 64 [.str s] (· = .bool (printB s)) := by
  refine good_of mixed tabOk Try.func64 rfl rfl Try.ntmps64 Try.results64 rfl rfl ?_
  (conv => whnf); (repeat' (first | (refine arith_i ⟨by omega, by omega⟩ ?_; conv => whnf) | (refine arith_u ⟨by omega, by omega⟩ ?_; conv => whnf) | (refine arith_8 ⟨by omega, by omega⟩ ?_; conv => whnf) | (refine need_i (by first | omega | (simp only [List.length_append, List.length_cons, List.length_nil, List.length_map, List.length_replicate, List.length_modify]; omega)) ?_; conv => whnf) | ((with_reducible refine branch_tt ?_); conv => whnf) | ((with_reducible refine branch_ff ?_); conv => whnf) | (with_reducible refine branch_not ?_) | ((with_reducible refine slc_e ?_); conv => whnf) | ((with_reducible refine callS_a ?_); conv => whnf) | ((with_reducible refine own_e ?_); conv => whnf) | ((with_reducible refine branch_d (fun hq => ?_) (fun hq => ?_)) <;> (try (exfalso; omega)) <;> (conv => whnf)) | ((with_reducible refine branch_e (fun hq => ?_) (fun hq => ?_)) <;> (try (exfalso; omega)) <;> (conv => whnf)) | ((with_reducible refine branch_n (fun hq => ?_) (fun hq => ?_)) <;> (try (exfalso; omega)) <;> (conv => whnf)) | ((with_reducible refine branch_i (fun hq => ?_) (fun hq => ?_)) <;> (try (exfalso; omega)) <;> (conv => whnf))))
  refine loop_i (fun k : Nat => k ≤ s.size ∧ ∀ i b, i < k → s[i]? = some b → prB b = true) (fun k => mkSt [(0, .str s), (3, .int .i64 k)] [] false) (fun k => s.size - k) 0 ⟨Nat.zero_le _, nofun⟩ (le_mk (by repeat' (first | exact trivial | rfl | apply And.intro)) (by repeat' (first | exact trivial | rfl | apply And.intro)) rfl) ?_
  rintro k ⟨hk, hall⟩
  (conv => whnf); (repeat' (first | (refine arith_i ⟨by omega, by omega⟩ ?_; conv => whnf) | (refine arith_u ⟨by omega, by omega⟩ ?_; conv => whnf) | (refine arith_8 ⟨by omega, by omega⟩ ?_; conv => whnf) | (refine need_i (by first | omega | (simp only [List.length_append, List.length_cons, List.length_nil, List.length_map, List.length_replicate, List.length_modify]; omega)) ?_; conv => whnf) | ((with_reducible refine branch_tt ?_); conv => whnf) | ((with_reducible refine branch_ff ?_); conv => whnf) | (with_reducible refine branch_not ?_) | (((refine byte_i (by omega) (byteAt' (by omega)) ?_; have hb : s[k]? = some s[k] := (getElem?_pos s k (by omega)))); conv => whnf) | ((with_reducible refine slc_e ?_); conv => whnf) | ((with_reducible refine callS_a ?_); conv => whnf) | ((with_reducible refine own_e ?_); conv => whnf) | ((with_reducible refine branch_d (fun hq => ?_) (fun hq => ?_)) <;> (try (exfalso; omega)) <;> (conv => whnf)) | ((with_reducible refine branch_e (fun hq => ?_) (fun hq => ?_)) <;> (try (exfalso; omega)) <;> (conv => whnf)) | ((with_reducible refine branch_n (fun hq => ?_) (fun hq => ?_)) <;> (try (exfalso; omega)) <;> (conv => whnf)) | ((with_reducible refine branch_i (fun hq => ?_) (fun hq => ?_)) <;> (try (exfalso; omega)) <;> (conv => whnf))))
  all_goals first
    | exact ret_p rfl (bool_eq (print_bad hb (by simp [prB]; omega)).symm)
    | (refine ⟨k + 1, ⟨by omega, fun i b hi hib => ?_⟩, (le_mk (by repeat' (first | exact trivial | rfl | apply And.intro)) (by repeat' (first | exact trivial | rfl | apply And.intro)) rfl), by omega⟩
       by_cases e : i = k
       · subst e
         rw [hb] at hib
         injection hib with hib
         subst hib
         simp [prB]; omega
       · exact hall i b (by omega) hib)
    | exact ret_p rfl (bool_eq (print_good fun i b hi hib => hall i b (by omega) hib).symm)
    | trace_state
theorem isNumber_ok (n : Int) : Good Try.prog TT false 63 [.int .i64 n] (· = .bool (decide (0 ≤ n ∧ n ≤ 9999))) := by
  refine good_of mixed tabOk Try.func63 rfl rfl Try.ntmps63 Try.results63 rfl rfl ?_
  (conv => whnf); (repeat' (first | (refine arith_i ⟨by omega, by omega⟩ ?_; conv => whnf) | (refine arith_u ⟨by omega, by omega⟩ ?_; conv => whnf) | (refine arith_8 ⟨by omega, by omega⟩ ?_; conv => whnf) | (refine need_i (by first | omega | (simp only [List.length_append, List.length_cons, List.length_nil, List.length_map, List.length_replicate, List.length_modify]; omega)) ?_; conv => whnf) | ((with_reducible refine branch_tt ?_); conv => whnf) | ((with_reducible refine branch_ff ?_); conv => whnf) | (with_reducible refine branch_not ?_) | ((with_reducible refine slc_e ?_); conv => whnf) | ((with_reducible refine callS_a ?_); conv => whnf) | ((with_reducible refine own_e ?_); conv => whnf) | ((with_reducible refine branch_d (fun hq => ?_) (fun hq => ?_)) <;> (try (exfalso; omega)) <;> (conv => whnf)) | ((with_reducible refine branch_e (fun hq => ?_) (fun hq => ?_)) <;> (try (exfalso; omega)) <;> (conv => whnf)) | ((with_reducible refine branch_n (fun hq => ?_) (fun hq => ?_)) <;> (try (exfalso; omega)) <;> (conv => whnf)) | ((with_reducible refine branch_i (fun hq => ?_) (fun hq => ?_)) <;> (try (exfalso; omega)) <;> (conv => whnf))))
  all_goals first
    | exact ret_p rfl (bool_eq (by symm; exact decide_eq_false (by omega)))
    | (refine ret_p rfl (bool_eq ?_); rw [Bool.eq_iff_iff]; simp only [decide_eq_true_eq]; omega)
    | trace_state
def foeB (id : Int) (l : List Int) (i : Nat) : Bool := decide (0 ≤ nth l i ∧ nth l i ≤ 9999 ∧ nth l i ≠ id ∧ (i = 0 ∨ nth l (i - 1) < nth l i))
def foesB (id : Int) (l : List Int) : Bool := (List.range l.length).all (foeB id l)
theorem foes_bad {id : Int} {l : List Int} {k : Nat} (hk : k < l.length) (h : foeB id l k = false) : foesB id l = false := by
  rw [foesB, List.all_eq_false]; exact ⟨k, List.mem_range.2 hk, by simp [h]⟩
theorem foes_good {id : Int} {l : List Int} (h : ∀ i, i < l.length → foeB id l i = true) : foesB id l = true := by
  rw [foesB, List.all_eq_true]; exact fun i hi => h i (List.mem_range.1 hi)
set_option maxHeartbeats 2000000 in
theorem vFoes_ok (id : Int) (l : List Int) (hl : l.length ≤ 1000000) : Good Try.prog TT false 66 [.int .i64 id, ints l] (· = .bool (foesB id l)) := by
  have LL : (l.map encI).length = l.length := List.length_map ..
  refine good_of mixed tabOk Try.func66 rfl rfl Try.ntmps66 Try.results66 rfl rfl ?_
  (conv => whnf); (repeat' (first | (refine arith_i ⟨by omega, by omega⟩ ?_; conv => whnf) | (refine arith_u ⟨by omega, by omega⟩ ?_; conv => whnf) | (refine arith_8 ⟨by omega, by omega⟩ ?_; conv => whnf) | (refine need_i (by first | omega | (simp only [List.length_append, List.length_cons, List.length_nil, List.length_map, List.length_replicate, List.length_modify]; omega)) ?_; conv => whnf) | ((with_reducible refine branch_tt ?_); conv => whnf) | ((with_reducible refine branch_ff ?_); conv => whnf) | (with_reducible refine branch_not ?_) | ((with_reducible refine slc_e ?_); conv => whnf) | ((with_reducible refine callS_a ?_); conv => whnf) | ((with_reducible refine own_e ?_); conv => whnf) | ((with_reducible refine branch_d (fun hq => ?_) (fun hq => ?_)) <;> (try (exfalso; omega)) <;> (conv => whnf)) | ((with_reducible refine branch_e (fun hq => ?_) (fun hq => ?_)) <;> (try (exfalso; omega)) <;> (conv => whnf)) | ((with_reducible refine branch_n (fun hq => ?_) (fun hq => ?_)) <;> (try (exfalso; omega)) <;> (conv => whnf)) | ((with_reducible refine branch_i (fun hq => ?_) (fun hq => ?_)) <;> (try (exfalso; omega)) <;> (conv => whnf))))
  refine loop_i (fun k : Nat => k ≤ l.length ∧ ∀ i, i < k → foeB id l i = true) (fun k => mkSt [(0, .int .i64 id), (1, ints l), (7, ints l), (8, .int .i64 (l.map encI).length), (9, .int .i64 k)] [] false) (fun k => l.length - k) 0 ⟨Nat.zero_le _, nofun⟩ (le_mk (by repeat' (first | exact trivial | rfl | apply And.intro)) (by repeat' (first | exact trivial | rfl | apply And.intro)) rfl) ?_
  rintro k ⟨hk, hall⟩
  (conv => whnf); (repeat' (first | (refine arith_i ⟨by omega, by omega⟩ ?_; conv => whnf) | (refine arith_u ⟨by omega, by omega⟩ ?_; conv => whnf) | (refine arith_8 ⟨by omega, by omega⟩ ?_; conv => whnf) | (refine need_i (by first | omega | (simp only [List.length_append, List.length_cons, List.length_nil, List.length_map, List.length_replicate, List.length_modify]; omega)) ?_; conv => whnf) | ((with_reducible refine branch_tt ?_); conv => whnf) | ((with_reducible refine branch_ff ?_); conv => whnf) | (with_reducible refine branch_not ?_) | (((refine idx_c (xs := l) (by omega) fun y hy => ?_; have hyn := nth_eq hy)); conv => whnf) | (((refine idx_m (xs := l) (by omega) (by omega) fun z hz => ?_; have hzn := nth_eq (k := k - 1) (show l[k - 1]? = some z from (by rw [← hz]; congr 1; omega)))); conv => whnf) | ((refine call_e (isNumber_ok _) ?_); conv => whnf) | ((with_reducible refine slc_e ?_); conv => whnf) | ((with_reducible refine callS_a ?_); conv => whnf) | ((with_reducible refine own_e ?_); conv => whnf) | ((with_reducible refine branch_d (fun hq => ?_) (fun hq => ?_)) <;> (try (exfalso; omega)) <;> (conv => whnf)) | ((with_reducible refine branch_e (fun hq => ?_) (fun hq => ?_)) <;> (try (exfalso; omega)) <;> (conv => whnf)) | ((with_reducible refine branch_n (fun hq => ?_) (fun hq => ?_)) <;> (try (exfalso; omega)) <;> (conv => whnf)) | ((with_reducible refine branch_i (fun hq => ?_) (fun hq => ?_)) <;> (try (exfalso; omega)) <;> (conv => whnf))))
  all_goals first
    | exact ret_p rfl (bool_eq (foes_bad (k := k) (by omega) (decide_eq_false (by omega))).symm)
    | (refine ⟨k + 1, ⟨by omega, fun i hi => ?_⟩, (le_mk (by repeat' (first | exact trivial | rfl | apply And.intro)) (by repeat' (first | exact trivial | rfl | apply And.intro)) rfl), by omega⟩
       by_cases e : i = k
       · subst e
         exact decide_eq_true (by omega)
       · exact hall i (by omega))
    | exact ret_p rfl (bool_eq (foes_good fun i hi => hall i (by omega)).symm)
    | trace_state
/-- The error of an item. -/
def emB (s : ByteArray) : Bool := s.toList == (⟨#[]⟩ : ByteArray).toList
def itemF (x : Itm) : Int := if ¬ (0 ≤ x.id ∧ x.id ≤ 9999 ∧ 1 ≤ x.ver ∧ x.ver ≤ 8) then 2 else if 40 < x.stem.size ∨ 6 < x.parts.length ∨ 8 < x.foes.length then 3 else if emB x.stem = true ∨ printB x.stem = false then 7 else if x.parts.length = 0 then 10 else if x.parts.all vPartB = false then 1 else if foesB x.id x.foes = false then 9 else 0
theorem all_bad {α : Type} {l : List α} {p : α → Bool} {k : Nat} {x : α} (h : l[k]? = some x) (hb : p x = false) : l.all p = false := by
  rw [List.all_eq_false]; exact ⟨x, List.mem_of_getElem? h, by simp [hb]⟩
theorem all_goodL {α : Type} {l : List α} {p : α → Bool} {k : Nat} (hk : l.length ≤ k) (h : ∀ i x, i < k → l[i]? = some x → p x = true) : l.all p = true := by
  rw [List.all_eq_true]
  intro x hx
  obtain ⟨i, hi, e⟩ := List.mem_iff_getElem.1 hx
  exact h i x (by omega) (by rw [← e]; exact List.getElem?_eq_getElem hi)
set_option maxHeartbeats 2000000 in
theorem iCheck_ok (x : Itm) (h1 : x.stem.size ≤ 1000000) (h2 : x.parts.length ≤ 1000000) (h3 : x.foes.length ≤ 1000000) : Good Try.prog TT false 30 [itmV x] (· = .int .i64 (itemF x)) := by
  have LP : (x.parts.map encPt).length = x.parts.length := List.length_map ..
  have LF : (x.foes.map encI).length = x.foes.length := List.length_map ..
  refine good_of mixed tabOk Try.func30 rfl rfl Try.ntmps30 Try.results30 rfl rfl ?_
  (conv => whnf); (repeat' (first | (refine arith_i ⟨by omega, by omega⟩ ?_; conv => whnf) | (refine arith_u ⟨by omega, by omega⟩ ?_; conv => whnf) | (refine arith_8 ⟨by omega, by omega⟩ ?_; conv => whnf) | (refine need_i (by first | omega | (simp only [List.length_append, List.length_cons, List.length_nil, List.length_map, List.length_replicate, List.length_modify]; omega)) ?_; conv => whnf) | ((with_reducible refine branch_tt ?_); conv => whnf) | ((with_reducible refine branch_ff ?_); conv => whnf) | (with_reducible refine branch_not ?_) | ((refine call_e (isNumber_ok x.id) ?_); conv => whnf) | ((refine call_e (printable_ok x.stem h1) ?_); conv => whnf) | ((with_reducible refine slc_e ?_); conv => whnf) | ((with_reducible refine callS_a ?_); conv => whnf) | ((with_reducible refine own_e ?_); conv => whnf) | ((with_reducible refine branch_d (fun hq => ?_) (fun hq => ?_)) <;> (try (exfalso; omega)) <;> (conv => whnf)) | ((with_reducible refine branch_e (fun hq => ?_) (fun hq => ?_)) <;> (try (exfalso; omega)) <;> (conv => whnf)) | ((with_reducible refine branch_n (fun hq => ?_) (fun hq => ?_)) <;> (try (exfalso; omega)) <;> (conv => whnf)) | ((with_reducible refine branch_i (fun hq => ?_) (fun hq => ?_)) <;> (try (exfalso; omega)) <;> (conv => whnf))))
  all_goals first
      | exact ret_p rfl (int_eq (by rw [itemF, if_pos (by omega)]))
      | exact ret_p rfl (int_eq (by rw [itemF, if_neg (by omega), if_pos (by omega)]))
      | exact ret_p rfl (int_eq (by rw [itemF, if_neg (by omega), if_neg (by omega), if_pos (by first | (left; assumption) | (right; assumption))]))
      | (have hem : emB x.stem = false := by assumption
         have hpr : printB x.stem = true := by assumption
         exact ret_p rfl (int_eq (by rw [itemF, if_neg (by omega), if_neg (by omega), if_neg (by simp [hem, hpr]), if_pos (by omega)])))
      | (have hem : emB x.stem = false := by assumption
         have hpr : printB x.stem = true := by assumption
         refine loop_i (fun k : Nat => k ≤ x.parts.length ∧ ∀ i p, i < k → x.parts[i]? = some p → vPartB p = true) (fun k => mkSt [(1, .ptr 1 0), (49, .lst 6 (x.parts.map encPt)), (50, .int .i64 (x.parts.map encPt).length), (51, .int .i64 k)] [(1, encX x)] false) (fun k => x.parts.length - k) 0 ⟨Nat.zero_le _, nofun⟩ (le_mk (by repeat' (first | exact trivial | rfl | apply And.intro)) (by repeat' (first | exact trivial | rfl | apply And.intro)) rfl) ?_
         rintro k ⟨hk, hall⟩
         (conv => whnf); (repeat' (first | (refine arith_i ⟨by omega, by omega⟩ ?_; conv => whnf) | (refine arith_u ⟨by omega, by omega⟩ ?_; conv => whnf) | (refine arith_8 ⟨by omega, by omega⟩ ?_; conv => whnf) | (refine need_i (by first | omega | (simp only [List.length_append, List.length_cons, List.length_nil, List.length_map, List.length_replicate, List.length_modify]; omega)) ?_; conv => whnf) | ((with_reducible refine branch_tt ?_); conv => whnf) | ((with_reducible refine branch_ff ?_); conv => whnf) | (with_reducible refine branch_not ?_) | (((refine idx_c (xs := x.parts) (by omega) fun p hp => ?_)); conv => whnf) | ((refine call_e (vPart_ok p) ?_); conv => whnf) | ((refine call_e (vFoes_ok x.id x.foes h3) ?_); conv => whnf) | ((with_reducible refine slc_e ?_); conv => whnf) | ((with_reducible refine callS_a ?_); conv => whnf) | ((with_reducible refine own_e ?_); conv => whnf) | ((with_reducible refine branch_d (fun hq => ?_) (fun hq => ?_)) <;> (try (exfalso; omega)) <;> (conv => whnf)) | ((with_reducible refine branch_e (fun hq => ?_) (fun hq => ?_)) <;> (try (exfalso; omega)) <;> (conv => whnf)) | ((with_reducible refine branch_n (fun hq => ?_) (fun hq => ?_)) <;> (try (exfalso; omega)) <;> (conv => whnf)) | ((with_reducible refine branch_i (fun hq => ?_) (fun hq => ?_)) <;> (try (exfalso; omega)) <;> (conv => whnf))))
         all_goals first
           | exact ret_p rfl (int_eq (by rw [itemF, if_neg (by omega), if_neg (by omega), if_neg (by simp [hem, hpr]), if_neg (by omega), if_pos (all_bad hp (by assumption))]))
           | (refine ⟨k + 1, ⟨by omega, fun i p' hi hp' => ?_⟩, (le_mk (by repeat' (first | exact trivial | rfl | apply And.intro)) (by repeat' (first | exact trivial | rfl | apply And.intro)) rfl), by omega⟩
              by_cases e : i = k
              · subst e
                rw [hp] at hp'
                injection hp' with hp'
                subst hp'
                assumption
              · exact hall i p' (by omega) hp')
           | (have hv := all_goodL (p := vPartB) (l := x.parts) (by omega) hall
              first
                | exact ret_p rfl (int_eq (by rw [itemF, if_neg (by omega), if_neg (by omega), if_neg (by simp [hem, hpr]), if_neg (by omega), if_neg (by rw [hv]; decide), if_pos (by assumption)]))
                | exact ret_p rfl (int_eq (by rw [itemF, if_neg (by omega), if_neg (by omega), if_neg (by simp [hem, hpr]), if_neg (by omega), if_neg (by rw [hv]; decide), if_neg (by simp [*])]))))
      | trace_state
set_option maxHeartbeats 2000000 in
theorem rICheck_ok (x : Itm) (h1 : x.stem.size ≤ 1000000) (h2 : x.parts.length ≤ 1000000) (h3 : x.foes.length ≤ 1000000) : Good Try.prog TT false 46 [itmV x] (· = .int .i64 (itemF x)) := by
  have LP : (x.parts.map encPt).length = x.parts.length := List.length_map ..
  have LF : (x.foes.map encI).length = x.foes.length := List.length_map ..
  refine good_of mixed tabOk Try.func46 rfl rfl Try.ntmps46 Try.results46 rfl rfl ?_
  (conv => whnf); (repeat' (first | (refine arith_i ⟨by omega, by omega⟩ ?_; conv => whnf) | (refine arith_u ⟨by omega, by omega⟩ ?_; conv => whnf) | (refine arith_8 ⟨by omega, by omega⟩ ?_; conv => whnf) | (refine need_i (by first | omega | (simp only [List.length_append, List.length_cons, List.length_nil, List.length_map, List.length_replicate, List.length_modify]; omega)) ?_; conv => whnf) | ((with_reducible refine branch_tt ?_); conv => whnf) | ((with_reducible refine branch_ff ?_); conv => whnf) | (with_reducible refine branch_not ?_) | ((with_reducible refine slc_e ?_); conv => whnf) | ((with_reducible refine callS_a ?_); conv => whnf) | ((with_reducible refine own_e ?_); conv => whnf) | (refine draw_i 42 plGL06a_0 (by decide +kernel) ?_; (conv => whnf); fail_if_success (guard_target =~ False)) | (refine draw_i 42 plGL06a_1 (by decide +kernel) ?_; (conv => whnf); fail_if_success (guard_target =~ False)) | (refine draw_i 42 plGL06a_2 (by decide +kernel) ?_; (conv => whnf); fail_if_success (guard_target =~ False)) | ((with_reducible refine And.intro ?_ ?_) <;> (conv => whnf)) | (with_reducible exact trivial) | ((with_reducible refine branch_d (fun hq => ?_) (fun hq => ?_)) <;> (try (exfalso; omega)) <;> (conv => whnf)) | ((with_reducible refine branch_e (fun hq => ?_) (fun hq => ?_)) <;> (try (exfalso; omega)) <;> (conv => whnf)) | ((with_reducible refine branch_n (fun hq => ?_) (fun hq => ?_)) <;> (try (exfalso; omega)) <;> (conv => whnf)) | ((with_reducible refine branch_i (fun hq => ?_) (fun hq => ?_)) <;> (try (exfalso; omega)) <;> (conv => whnf))))
  all_goals first
      | exact ret_p rfl (int_eq (by rw [itemF, if_pos (by omega)]))
      | exact ret_p rfl (int_eq (by rw [itemF, if_neg (by omega), if_pos (by omega)]))
      | exact ret_p rfl (int_eq (by rw [itemF, if_neg (by omega), if_neg (by omega), if_pos (by first | (left; assumption) | (right; assumption))]))
      | skip
  have hem : emB x.stem = false := by assumption
  refine loop_i (fun k : Nat => k ≤ x.stem.size ∧ ∀ i b, i < k → x.stem[i]? = some b → prB b = true) (fun k => mkSt [(1, .ptr 1 0), (3, .int .i64 k)] [(1, encX x)] false) (fun k => x.stem.size - k) 0 ⟨Nat.zero_le _, nofun⟩ (le_mk (by repeat' (first | exact trivial | rfl | apply And.intro)) (by repeat' (first | exact trivial | rfl | apply And.intro)) rfl) ?_
  rintro k ⟨hk, hall⟩
  (conv => whnf); (repeat' (first | (refine arith_i ⟨by omega, by omega⟩ ?_; conv => whnf) | (refine arith_u ⟨by omega, by omega⟩ ?_; conv => whnf) | (refine arith_8 ⟨by omega, by omega⟩ ?_; conv => whnf) | (refine need_i (by first | omega | (simp only [List.length_append, List.length_cons, List.length_nil, List.length_map, List.length_replicate, List.length_modify]; omega)) ?_; conv => whnf) | ((with_reducible refine branch_tt ?_); conv => whnf) | ((with_reducible refine branch_ff ?_); conv => whnf) | (with_reducible refine branch_not ?_) | (((refine byte_i (by omega) (byteAt' (by omega)) ?_; have hb : x.stem[k]? = some x.stem[k] := (getElem?_pos x.stem k (by omega)))); conv => whnf) | ((with_reducible refine slc_e ?_); conv => whnf) | ((with_reducible refine callS_a ?_); conv => whnf) | ((with_reducible refine own_e ?_); conv => whnf) | (refine draw_i 42 plGL06a_0 (by decide +kernel) ?_; (conv => whnf); fail_if_success (guard_target =~ False)) | (refine draw_i 42 plGL06a_1 (by decide +kernel) ?_; (conv => whnf); fail_if_success (guard_target =~ False)) | (refine draw_i 42 plGL06a_2 (by decide +kernel) ?_; (conv => whnf); fail_if_success (guard_target =~ False)) | ((with_reducible refine And.intro ?_ ?_) <;> (conv => whnf)) | (with_reducible exact trivial) | ((with_reducible refine branch_d (fun hq => ?_) (fun hq => ?_)) <;> (try (exfalso; omega)) <;> (conv => whnf)) | ((with_reducible refine branch_e (fun hq => ?_) (fun hq => ?_)) <;> (try (exfalso; omega)) <;> (conv => whnf)) | ((with_reducible refine branch_n (fun hq => ?_) (fun hq => ?_)) <;> (try (exfalso; omega)) <;> (conv => whnf)) | ((with_reducible refine branch_i (fun hq => ?_) (fun hq => ?_)) <;> (try (exfalso; omega)) <;> (conv => whnf))))
  all_goals first
    | (have hb0 := print_bad hb (by simp [prB]; omega)
       exact ret_p rfl (int_eq (by rw [itemF, if_neg (by omega), if_neg (by omega), if_pos (.inr hb0)])))
    | (refine ⟨k + 1, ⟨by omega, fun i b hi hib => ?_⟩, (le_mk (by repeat' (first | exact trivial | rfl | apply And.intro)) (by repeat' (first | exact trivial | rfl | apply And.intro)) rfl), by omega⟩
       by_cases e : i = k
       · subst e
         rw [hb] at hib
         injection hib with hib
         subst hib
         simp [prB]; omega
       · exact hall i b (by omega) hib)
    | (have hpr := print_good (s := x.stem) fun i b hi hib => hall i b (by omega) hib
       exact ret_p rfl (int_eq (by rw [itemF, if_neg (by omega), if_neg (by omega), if_neg (by simp [hem, hpr]), if_pos (by omega)])))
    | skip
  have hpr := print_good (s := x.stem) fun i b hi hib => hall i b (by omega) hib
  refine loop_i (fun k : Nat => k ≤ x.parts.length ∧ ∀ i p, i < k → x.parts[i]? = some p → vPartB p = true) (fun k => mkSt [(1, .ptr 1 0), (4, .int .i64 k)] [(1, encX x)] false) (fun k => x.parts.length - k) 0 ⟨Nat.zero_le _, nofun⟩ (le_mk (by repeat' (first | exact trivial | rfl | apply And.intro)) (by repeat' (first | exact trivial | rfl | apply And.intro)) rfl) ?_
  rintro k2 ⟨hk2, hall2⟩
  (conv => whnf); (repeat' (first | (refine arith_i ⟨by omega, by omega⟩ ?_; conv => whnf) | (refine arith_u ⟨by omega, by omega⟩ ?_; conv => whnf) | (refine arith_8 ⟨by omega, by omega⟩ ?_; conv => whnf) | (refine need_i (by first | omega | (simp only [List.length_append, List.length_cons, List.length_nil, List.length_map, List.length_replicate, List.length_modify]; omega)) ?_; conv => whnf) | ((with_reducible refine branch_tt ?_); conv => whnf) | ((with_reducible refine branch_ff ?_); conv => whnf) | (with_reducible refine branch_not ?_) | (((refine idx_c (xs := x.parts) (by omega) fun p hp => ?_)); conv => whnf) | ((refine call_e (rPart_ok p) ?_); conv => whnf) | ((with_reducible refine slc_e ?_); conv => whnf) | ((with_reducible refine callS_a ?_); conv => whnf) | ((with_reducible refine own_e ?_); conv => whnf) | (refine draw_i 42 plGL06a_0 (by decide +kernel) ?_; (conv => whnf); fail_if_success (guard_target =~ False)) | (refine draw_i 42 plGL06a_1 (by decide +kernel) ?_; (conv => whnf); fail_if_success (guard_target =~ False)) | (refine draw_i 42 plGL06a_2 (by decide +kernel) ?_; (conv => whnf); fail_if_success (guard_target =~ False)) | ((with_reducible refine And.intro ?_ ?_) <;> (conv => whnf)) | (with_reducible exact trivial) | ((with_reducible refine branch_d (fun hq => ?_) (fun hq => ?_)) <;> (try (exfalso; omega)) <;> (conv => whnf)) | ((with_reducible refine branch_e (fun hq => ?_) (fun hq => ?_)) <;> (try (exfalso; omega)) <;> (conv => whnf)) | ((with_reducible refine branch_n (fun hq => ?_) (fun hq => ?_)) <;> (try (exfalso; omega)) <;> (conv => whnf)) | ((with_reducible refine branch_i (fun hq => ?_) (fun hq => ?_)) <;> (try (exfalso; omega)) <;> (conv => whnf))))
  all_goals first
    | (have hb0 := all_bad hp hq
       exact ret_p rfl (int_eq (by rw [itemF, if_neg (by omega), if_neg (by omega), if_neg (by simp [hem, hpr]), if_neg (by omega), if_pos hb0])))
    | (refine ⟨k2 + 1, ⟨by omega, fun i p' hi hp' => ?_⟩, (le_mk (by repeat' (first | exact trivial | rfl | apply And.intro)) (by repeat' (first | exact trivial | rfl | apply And.intro)) rfl), by omega⟩
       by_cases e : i = k2
       · subst e
         rw [hp] at hp'
         injection hp' with hp'
         subst hp'
         assumption
       · exact hall2 i p' (by omega) hp')
    | skip
  have hvp := all_goodL (p := vPartB) (l := x.parts) (by omega) hall2
  refine loop_i (fun k : Nat => k ≤ x.foes.length ∧ ∀ i, i < k → foeB x.id x.foes i = true) (fun k => mkSt [(1, .ptr 1 0), (5, .int .i64 k)] [(1, encX x)] false) (fun k => x.foes.length - k) 0 ⟨Nat.zero_le _, nofun⟩ (le_mk (by repeat' (first | exact trivial | rfl | apply And.intro)) (by repeat' (first | exact trivial | rfl | apply And.intro)) rfl) ?_
  rintro k3 ⟨hk3, hall3⟩
  (conv => whnf); (repeat' (first | (refine arith_i ⟨by omega, by omega⟩ ?_; conv => whnf) | (refine arith_u ⟨by omega, by omega⟩ ?_; conv => whnf) | (refine arith_8 ⟨by omega, by omega⟩ ?_; conv => whnf) | (refine need_i (by first | omega | (simp only [List.length_append, List.length_cons, List.length_nil, List.length_map, List.length_replicate, List.length_modify]; omega)) ?_; conv => whnf) | ((with_reducible refine branch_tt ?_); conv => whnf) | ((with_reducible refine branch_ff ?_); conv => whnf) | (with_reducible refine branch_not ?_) | ((refine idx_cs (by assumption) ?_); conv => whnf) | (((refine idx_c (xs := x.foes) (by omega) fun y hy => ?_; have hyn := nth_eq hy)); conv => whnf) | (((refine idx_m (xs := x.foes) (by omega) (by omega) fun z hz => ?_; have hzn := nth_eq (k := k3 - 1) (show x.foes[k3 - 1]? = some z from (by rw [← hz]; congr 1; omega)))); conv => whnf) | ((with_reducible refine slc_e ?_); conv => whnf) | ((with_reducible refine callS_a ?_); conv => whnf) | ((with_reducible refine own_e ?_); conv => whnf) | (refine draw_i 42 plGL06a_0 (by decide +kernel) ?_; (conv => whnf); fail_if_success (guard_target =~ False)) | (refine draw_i 42 plGL06a_1 (by decide +kernel) ?_; (conv => whnf); fail_if_success (guard_target =~ False)) | (refine draw_i 42 plGL06a_2 (by decide +kernel) ?_; (conv => whnf); fail_if_success (guard_target =~ False)) | ((with_reducible refine And.intro ?_ ?_) <;> (conv => whnf)) | (with_reducible exact trivial) | ((with_reducible refine branch_d (fun hq => ?_) (fun hq => ?_)) <;> (try (exfalso; omega)) <;> (conv => whnf)) | ((with_reducible refine branch_e (fun hq => ?_) (fun hq => ?_)) <;> (try (exfalso; omega)) <;> (conv => whnf)) | ((with_reducible refine branch_n (fun hq => ?_) (fun hq => ?_)) <;> (try (exfalso; omega)) <;> (conv => whnf)) | ((with_reducible refine branch_i (fun hq => ?_) (fun hq => ?_)) <;> (try (exfalso; omega)) <;> (conv => whnf))))
  all_goals first
    | (have hb0 := foes_bad (id := x.id) (l := x.foes) (k := k3) (by omega) (decide_eq_false (by omega))
       exact ret_p rfl (int_eq (by rw [itemF, if_neg (by omega), if_neg (by omega), if_neg (by simp [hem, hpr]), if_neg (by omega), if_neg (by rw [hvp]; decide), if_pos hb0])))
    | (have hg0 := foes_good (id := x.id) (l := x.foes) fun i hi => hall3 i (by omega)
       exact ret_p rfl (int_eq (by rw [itemF, if_neg (by omega), if_neg (by omega), if_neg (by simp [hem, hpr]), if_neg (by omega), if_neg (by rw [hvp]; decide), if_neg (by rw [hg0]; decide)])))
    | (refine ⟨k3 + 1, ⟨by omega, fun i hi => ?_⟩, (le_mk (by repeat' (first | exact trivial | rfl | apply And.intro)) (by repeat' (first | exact trivial | rfl | apply And.intro)) rfl), by omega⟩
       by_cases e : i = k3
       · subst e
         exact decide_eq_true (by omega)
       · exact hall3 i (by omega))
    | trace_state
def encRef (p : Int × Int) : List AV := [.int .i64 p.1, .int .i64 p.2]
def refOf (x : Itm) : Int × Int := (x.id, x.ver)
/-- An item that can be handled. -/
def ItmS (x : Itm) : Prop := x.stem.size ≤ 1000 ∧ x.parts.length ≤ 1000 ∧ x.foes.length ≤ 1000
end Go.Proofs.Ytjgaacjfoaohnaa
