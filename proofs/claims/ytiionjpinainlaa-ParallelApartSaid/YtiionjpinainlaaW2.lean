/- Several texts in one: GL06a, GL06c, GL06d, GL09a, GL08r, GL09b, Pl05. -/
import Derived.Test.YtiionjpinainlaaW1
import Derived.Test.YtiionjpinainlaaMA
/- Layer 6: items: valid parts, texts, enemies; Check, Total, Enemy, of the program and of the reference. -/
section
namespace Go.Proofs.Ytiionjpinainlaa
set_option linter.unusedVariables false
set_option linter.unusedSimpArgs false
set_option linter.unnecessarySimpa false
set_option linter.unusedSectionVars false
set_option maxRecDepth 10000
open Go.RowKit
def plGL06a_0 : Plan := (.take 0 (.take 1 (.take 2 (.take 3 (.take 4 (.take 5 (.take 6 (.take 7 (.take 8 (.take 9 (.take 10 (.take 11 (.take 12 (.take 13 (.take 14 (.take 15 (.take 16 (.take 17 (.take 18 (.take 19 (.take 20 (.take 21 (.take 22 (.take 23 (.take 24 (.take 25 (.take 26 (.take 27 (.take 28 (.take 29 (.take 30 (.take 31 (.take 32 (.take 33 (.take 34 (.take 35 (.take 36 (.take 37 (.take 38 (.take 39 (.take 40 (.take 41 .done))))))))))))))))))))))))))))))))))))))))))
def plGL06a_1 : Plan := (.take 0 (.take 1 (.take 2 (.take 3 (.alt 4 (.take 5 (.take 6 (.take 7 (.take 9 (.alt 8 (.take 10 (.alt 11 (.take 12 (.take 13 (.take 14 (.take 15 (.take 17 (.take 20 (.alt 16 (.take 18 (.alt 19 (.alt 21 (.take 22 (.take 23 (.take 24 (.take 25 (.take 26 (.take 27 (.take 28 (.take 30 (.take 31 (.take 34 (.take 36 (.alt 29 (.take 32 (.alt 33 (.alt 35 (.take 37 (.alt 38 (.take 39 (.take 40 (.take 41 .done))) .stop)) .stop) (.alt 35 (.take 37 (.alt 33 (.alt 38 (.take 39 (.take 40 (.take 41 .done))) .stop) (.alt 38 (.alt 33 (.take 39 (.take 40 (.take 41 .done))) .stop) .stop))) .stop))) (.alt 35 (.take 37 (.alt 29 (.take 32 (.alt 33 (.alt 38 (.take 39 (.take 40 (.take 41 .done))) .stop) (.alt 38 (.alt 33 (.take 39 (.take 40 (.take 41 .done))) .stop) .stop))) (.alt 38 (.alt 29 (.take 32 (.alt 33 (.take 39 (.take 40 (.take 41 .done))) .stop)) .stop) .stop))) .stop))))))))))))) .stop) (.alt 21 (.alt 19 (.take 22 (.take 23 (.take 24 (.take 25 (.take 26 (.take 27 (.take 28 (.take 30 (.take 31 (.take 34 (.take 36 (.alt 29 (.take 32 (.alt 33 (.alt 35 (.take 37 (.alt 38 (.take 39 (.take 40 (.take 41 .done))) .stop)) .stop) (.alt 35 (.take 37 (.alt 33 (.alt 38 (.take 39 (.take 40 (.take 41 .done))) .stop) (.alt 38 (.alt 33 (.take 39 (.take 40 (.take 41 .done))) .stop) .stop))) .stop))) (.alt 35 (.take 37 (.alt 29 (.take 32 (.alt 33 (.alt 38 (.take 39 (.take 40 (.take 41 .done))) .stop) (.alt 38 (.alt 33 (.take 39 (.take 40 (.take 41 .done))) .stop) .stop))) (.alt 38 (.alt 29 (.take 32 (.alt 33 (.take 39 (.take 40 (.take 41 .done))) .stop)) .stop) .stop))) .stop))))))))))))) .stop) .stop))) (.alt 21 (.alt 16 (.take 18 (.alt 19 (.take 22 (.take 23 (.take 24 (.take 25 (.take 26 (.take 27 (.take 28 (.take 30 (.take 31 (.take 34 (.take 36 (.alt 29 (.take 32 (.alt 33 (.alt 35 (.take 37 (.alt 38 (.take 39 (.take 40 (.take 41 .done))) .stop)) .stop) (.alt 35 (.take 37 (.alt 33 (.alt 38 (.take 39 (.take 40 (.take 41 .done))) .stop) (.alt 38 (.alt 33 (.take 39 (.take 40 (.take 41 .done))) .stop) .stop))) .stop))) (.alt 35 (.take 37 (.alt 29 (.take 32 (.alt 33 (.alt 38 (.take 39 (.take 40 (.take 41 .done))) .stop) (.alt 38 (.alt 33 (.take 39 (.take 40 (.take 41 .done))) .stop) .stop))) (.alt 38 (.alt 29 (.take 32 (.alt 33 (.take 39 (.take 40 (.take 41 .done))) .stop)) .stop) .stop))) .stop))))))))))))) .stop)) .stop) .stop)))))))) .stop)) .stop))))) .stop)))))
def plGL06a_2 : Plan := (.take 0 (.take 2 (.alt 1 (.take 3 (.alt 4 (.take 5 (.take 6 (.take 7 (.take 9 (.alt 8 (.take 10 (.alt 11 (.take 12 (.take 13 (.take 14 (.take 15 (.take 17 (.take 20 (.alt 16 (.take 18 (.alt 19 (.alt 21 (.take 22 (.take 23 (.take 24 (.take 25 (.take 26 (.take 27 (.take 28 (.take 30 (.take 31 (.take 34 (.take 36 (.alt 29 (.take 32 (.alt 33 (.alt 35 (.take 37 (.alt 38 (.take 39 (.take 40 (.take 41 .done))) .stop)) .stop) (.alt 35 (.take 37 (.alt 33 (.alt 38 (.take 39 (.take 40 (.take 41 .done))) .stop) (.alt 38 (.alt 33 (.take 39 (.take 40 (.take 41 .done))) .stop) .stop))) .stop))) (.alt 35 (.take 37 (.alt 29 (.take 32 (.alt 33 (.alt 38 (.take 39 (.take 40 (.take 41 .done))) .stop) (.alt 38 (.alt 33 (.take 39 (.take 40 (.take 41 .done))) .stop) .stop))) (.alt 38 (.alt 29 (.take 32 (.alt 33 (.take 39 (.take 40 (.take 41 .done))) .stop)) .stop) .stop))) .stop))))))))))))) .stop) (.alt 21 (.alt 19 (.take 22 (.take 23 (.take 24 (.take 25 (.take 26 (.take 27 (.take 28 (.take 30 (.take 31 (.take 34 (.take 36 (.alt 29 (.take 32 (.alt 33 (.alt 35 (.take 37 (.alt 38 (.take 39 (.take 40 (.take 41 .done))) .stop)) .stop) (.alt 35 (.take 37 (.alt 33 (.alt 38 (.take 39 (.take 40 (.take 41 .done))) .stop) (.alt 38 (.alt 33 (.take 39 (.take 40 (.take 41 .done))) .stop) .stop))) .stop))) (.alt 35 (.take 37 (.alt 29 (.take 32 (.alt 33 (.alt 38 (.take 39 (.take 40 (.take 41 .done))) .stop) (.alt 38 (.alt 33 (.take 39 (.take 40 (.take 41 .done))) .stop) .stop))) (.alt 38 (.alt 29 (.take 32 (.alt 33 (.take 39 (.take 40 (.take 41 .done))) .stop)) .stop) .stop))) .stop))))))))))))) .stop) .stop))) (.alt 21 (.alt 16 (.take 18 (.alt 19 (.take 22 (.take 23 (.take 24 (.take 25 (.take 26 (.take 27 (.take 28 (.take 30 (.take 31 (.take 34 (.take 36 (.alt 29 (.take 32 (.alt 33 (.alt 35 (.take 37 (.alt 38 (.take 39 (.take 40 (.take 41 .done))) .stop)) .stop) (.alt 35 (.take 37 (.alt 33 (.alt 38 (.take 39 (.take 40 (.take 41 .done))) .stop) (.alt 38 (.alt 33 (.take 39 (.take 40 (.take 41 .done))) .stop) .stop))) .stop))) (.alt 35 (.take 37 (.alt 29 (.take 32 (.alt 33 (.alt 38 (.take 39 (.take 40 (.take 41 .done))) .stop) (.alt 38 (.alt 33 (.take 39 (.take 40 (.take 41 .done))) .stop) .stop))) (.alt 38 (.alt 29 (.take 32 (.alt 33 (.take 39 (.take 40 (.take 41 .done))) .stop)) .stop) .stop))) .stop))))))))))))) .stop)) .stop) .stop)))))))) .stop)) .stop))))) .stop)) .stop)))
structure Prt where
  kind : Int
  max : Int
  topic : Int
  obj : Int
  opts : Int
  key : Int
def encPt (p : Prt) : List AV := [.int .i64 p.kind, .int .i64 p.max, .int .i64 p.topic, .int .i64 p.obj, .int .i64 p.opts, .int .i64 p.key]
structure Itm where
  id : Int
  ver : Int
  stem : ByteArray
  parts : List Prt
  foes : List Int
def encX (x : Itm) : List AV := [.int .i64 x.id, .int .i64 x.ver, .str x.stem, .lst 6 (x.parts.map encPt), ints x.foes]
def itmV (x : Itm) : AV := .agg (encX x)
def itmsV (l : List Itm) : AV := .lst 5 (l.map encX)
def vPartB (p : Prt) : Bool := decide (1 ≤ p.max ∧ p.max ≤ 40 ∧ 0 ≤ p.topic ∧ p.topic < 16 ∧ 0 ≤ p.obj ∧ p.obj < 6 ∧ ((p.kind = 1 ∧ p.opts = 0 ∧ p.key = 0) ∨ (p.kind = 2 ∧ 2 ≤ p.opts ∧ p.opts ≤ 5 ∧ 0 ≤ p.key ∧ p.key < p.opts)))
set_option maxHeartbeats 2000000 in
theorem vPart_ok (p : Prt) : Good Try.prog TT false 83 [.agg (encPt p)] (· = .bool (vPartB p)) := by
  refine good_of mixed tabOk Try.func83 rfl rfl Try.ntmps83 Try.results83 rfl rfl ?_
  (conv => whnf); (repeat' (first | (refine arith_i ⟨by omega, by omega⟩ ?_; conv => whnf) | (refine arith_u ⟨by omega, by omega⟩ ?_; conv => whnf) | (refine arith_8 ⟨by omega, by omega⟩ ?_; conv => whnf) | (refine need_i (by first | omega | (simp only [List.length_cons, List.length_nil]; omega) | (simp only [List.length_append, List.length_cons, List.length_nil, List.length_map, List.length_replicate, List.length_modify]; omega)) ?_; conv => whnf) | ((with_reducible refine branch_tt ?_); conv => whnf) | ((with_reducible refine branch_ff ?_); conv => whnf) | (with_reducible refine branch_not ?_) | ((with_reducible refine slc_e ?_); conv => whnf) | ((with_reducible refine callS_a ?_); conv => whnf) | ((with_reducible refine bld_a ?_); conv => whnf) | ((with_reducible refine own_e ?_); conv => whnf) | ((with_reducible refine mkmap_b ?_); conv => whnf) | ((with_reducible refine branch_d (fun hq => ?_) (fun hq => ?_)) <;> (try (exfalso; omega)) <;> (conv => whnf)) | ((with_reducible refine branch_e (fun hq => ?_) (fun hq => ?_)) <;> (try (exfalso; omega)) <;> (conv => whnf)) | ((with_reducible refine branch_n (fun hq => ?_) (fun hq => ?_)) <;> (try (exfalso; omega)) <;> (conv => whnf)) | ((with_reducible refine branch_i (fun hq => ?_) (fun hq => ?_)) <;> (try (exfalso; omega)) <;> (conv => whnf))))
  all_goals first
    | exact ret_p rfl (bool_eq (by symm; exact decide_eq_true (by omega)))
    | exact ret_p rfl (bool_eq (by symm; exact decide_eq_false (by omega)))
    | (refine ret_p rfl (bool_eq ?_); rw [vPartB, Bool.eq_iff_iff]; simp only [decide_eq_true_eq, beq_iff_eq]; omega)
    | trace_state
set_option maxHeartbeats 2000000 in
theorem rPart_ok (p : Prt) : Good Try.prog TT false 86 [.agg (encPt p)] (· = .bool (vPartB p)) := by
  refine good_of mixed tabOk Try.func86 rfl rfl Try.ntmps86 Try.results86 rfl rfl ?_
  (conv => whnf); (repeat' (first | (refine arith_i ⟨by omega, by omega⟩ ?_; conv => whnf) | (refine arith_u ⟨by omega, by omega⟩ ?_; conv => whnf) | (refine arith_8 ⟨by omega, by omega⟩ ?_; conv => whnf) | (refine need_i (by first | omega | (simp only [List.length_cons, List.length_nil]; omega) | (simp only [List.length_append, List.length_cons, List.length_nil, List.length_map, List.length_replicate, List.length_modify]; omega)) ?_; conv => whnf) | ((with_reducible refine branch_tt ?_); conv => whnf) | ((with_reducible refine branch_ff ?_); conv => whnf) | (with_reducible refine branch_not ?_) | ((with_reducible refine slc_e ?_); conv => whnf) | ((with_reducible refine callS_a ?_); conv => whnf) | ((with_reducible refine bld_a ?_); conv => whnf) | ((with_reducible refine own_e ?_); conv => whnf) | ((with_reducible refine mkmap_b ?_); conv => whnf) | ((with_reducible refine branch_d (fun hq => ?_) (fun hq => ?_)) <;> (try (exfalso; omega)) <;> (conv => whnf)) | ((with_reducible refine branch_e (fun hq => ?_) (fun hq => ?_)) <;> (try (exfalso; omega)) <;> (conv => whnf)) | ((with_reducible refine branch_n (fun hq => ?_) (fun hq => ?_)) <;> (try (exfalso; omega)) <;> (conv => whnf)) | ((with_reducible refine branch_i (fun hq => ?_) (fun hq => ?_)) <;> (try (exfalso; omega)) <;> (conv => whnf))))
  all_goals first
    | exact ret_p rfl (bool_eq (by symm; exact decide_eq_true (by omega)))
    | exact ret_p rfl (bool_eq (by symm; exact decide_eq_false (by omega)))
    | (refine ret_p rfl (bool_eq ?_); rw [vPartB, Bool.eq_iff_iff]; simp only [decide_eq_true_eq, beq_iff_eq]; omega)
    | trace_state
def prB (b : UInt8) : Bool := decide (32 ≤ (b.toNat : Int) ∧ (b.toNat : Int) ≤ 126)
def printB (s : ByteArray) : Bool := (List.range s.size).all fun i => match s[i]? with | some b => prB b | none => true
theorem print_bad {s : ByteArray} {i : Nat} {b : UInt8} (hi : s[i]? = some b) (hb : prB b = false) : printB s = false := by
  have hlt : i < s.size := by
    rcases Nat.lt_or_ge i s.size with h | h
    · exact h
    · simp [h] at hi
  unfold printB
  rw [List.all_eq_false]
  exact ⟨i, List.mem_range.2 hlt, by rw [hi]; simp [hb]⟩
theorem print_good {s : ByteArray} (h : ∀ i b, i < s.size → s[i]? = some b → prB b = true) : printB s = true := by
  unfold printB
  simp only [List.all_eq_true, List.mem_range]
  intro i hi
  split
  · next b hb => exact h i b hi hb
  · rfl
theorem byteAt' {s : ByteArray} {i : Nat} (h : i < s.size) : s[(i : Int).toNat]? = some s[i] := by
  rw [Int.toNat_natCast]
  exact getElem?_pos s i h
set_option maxHeartbeats 2000000 in
theorem printable_ok (s : ByteArray) (hs : s.size ≤ 1000000) : Good Try.prog TT false 82 [.str s] (· = .bool (printB s)) := by
  refine good_of mixed tabOk Try.func82 rfl rfl Try.ntmps82 Try.results82 rfl rfl ?_
  (conv => whnf); (repeat' (first | (refine arith_i ⟨by omega, by omega⟩ ?_; conv => whnf) | (refine arith_u ⟨by omega, by omega⟩ ?_; conv => whnf) | (refine arith_8 ⟨by omega, by omega⟩ ?_; conv => whnf) | (refine need_i (by first | omega | (simp only [List.length_cons, List.length_nil]; omega) | (simp only [List.length_append, List.length_cons, List.length_nil, List.length_map, List.length_replicate, List.length_modify]; omega)) ?_; conv => whnf) | ((with_reducible refine branch_tt ?_); conv => whnf) | ((with_reducible refine branch_ff ?_); conv => whnf) | (with_reducible refine branch_not ?_) | ((with_reducible refine slc_e ?_); conv => whnf) | ((with_reducible refine callS_a ?_); conv => whnf) | ((with_reducible refine bld_a ?_); conv => whnf) | ((with_reducible refine own_e ?_); conv => whnf) | ((with_reducible refine mkmap_b ?_); conv => whnf) | ((with_reducible refine branch_d (fun hq => ?_) (fun hq => ?_)) <;> (try (exfalso; omega)) <;> (conv => whnf)) | ((with_reducible refine branch_e (fun hq => ?_) (fun hq => ?_)) <;> (try (exfalso; omega)) <;> (conv => whnf)) | ((with_reducible refine branch_n (fun hq => ?_) (fun hq => ?_)) <;> (try (exfalso; omega)) <;> (conv => whnf)) | ((with_reducible refine branch_i (fun hq => ?_) (fun hq => ?_)) <;> (try (exfalso; omega)) <;> (conv => whnf))))
  refine loop_i (fun k : Nat => k ≤ s.size ∧ ∀ i b, i < k → s[i]? = some b → prB b = true) (fun k => mkSt [(0, .str s), (3, .int .i64 k)] [] false) (fun k => s.size - k) 0 ⟨Nat.zero_le _, nofun⟩ (le_mk (by repeat' (first | exact trivial | rfl | apply And.intro)) (by repeat' (first | exact trivial | rfl | apply And.intro)) rfl) ?_
  rintro k ⟨hk, hall⟩
  (conv => whnf); (repeat' (first | (refine arith_i ⟨by omega, by omega⟩ ?_; conv => whnf) | (refine arith_u ⟨by omega, by omega⟩ ?_; conv => whnf) | (refine arith_8 ⟨by omega, by omega⟩ ?_; conv => whnf) | (refine need_i (by first | omega | (simp only [List.length_cons, List.length_nil]; omega) | (simp only [List.length_append, List.length_cons, List.length_nil, List.length_map, List.length_replicate, List.length_modify]; omega)) ?_; conv => whnf) | ((with_reducible refine branch_tt ?_); conv => whnf) | ((with_reducible refine branch_ff ?_); conv => whnf) | (with_reducible refine branch_not ?_) | (((refine byte_i (by omega) (byteAt' (by omega)) ?_; have hb : s[k]? = some s[k] := (getElem?_pos s k (by omega)))); conv => whnf) | ((with_reducible refine slc_e ?_); conv => whnf) | ((with_reducible refine callS_a ?_); conv => whnf) | ((with_reducible refine bld_a ?_); conv => whnf) | ((with_reducible refine own_e ?_); conv => whnf) | ((with_reducible refine mkmap_b ?_); conv => whnf) | ((with_reducible refine branch_d (fun hq => ?_) (fun hq => ?_)) <;> (try (exfalso; omega)) <;> (conv => whnf)) | ((with_reducible refine branch_e (fun hq => ?_) (fun hq => ?_)) <;> (try (exfalso; omega)) <;> (conv => whnf)) | ((with_reducible refine branch_n (fun hq => ?_) (fun hq => ?_)) <;> (try (exfalso; omega)) <;> (conv => whnf)) | ((with_reducible refine branch_i (fun hq => ?_) (fun hq => ?_)) <;> (try (exfalso; omega)) <;> (conv => whnf))))
  all_goals first
    | exact ret_p rfl (bool_eq (print_bad hb (by simp [prB]; omega)).symm)
    | (refine ⟨k + 1, ⟨by omega, fun i b hi hib => ?_⟩, (le_mk (by repeat' (first | exact trivial | rfl | apply And.intro)) (by repeat' (first | exact trivial | rfl | apply And.intro)) rfl), by omega⟩
       by_cases e : i = k
       · subst e
         rw [hb] at hib
         injection hib with hib
         subst hib
         simp [prB]; omega
       · exact hall i b (by omega) hib)
    | exact ret_p rfl (bool_eq (print_good fun i b hi hib => hall i b (by omega) hib).symm)
    | trace_state
theorem isNumber_ok (n : Int) : Good Try.prog TT false 81 [.int .i64 n] (· = .bool (decide (0 ≤ n ∧ n ≤ 9999))) := by
  refine good_of mixed tabOk Try.func81 rfl rfl Try.ntmps81 Try.results81 rfl rfl ?_
  (conv => whnf); (repeat' (first | (refine arith_i ⟨by omega, by omega⟩ ?_; conv => whnf) | (refine arith_u ⟨by omega, by omega⟩ ?_; conv => whnf) | (refine arith_8 ⟨by omega, by omega⟩ ?_; conv => whnf) | (refine need_i (by first | omega | (simp only [List.length_cons, List.length_nil]; omega) | (simp only [List.length_append, List.length_cons, List.length_nil, List.length_map, List.length_replicate, List.length_modify]; omega)) ?_; conv => whnf) | ((with_reducible refine branch_tt ?_); conv => whnf) | ((with_reducible refine branch_ff ?_); conv => whnf) | (with_reducible refine branch_not ?_) | ((with_reducible refine slc_e ?_); conv => whnf) | ((with_reducible refine callS_a ?_); conv => whnf) | ((with_reducible refine bld_a ?_); conv => whnf) | ((with_reducible refine own_e ?_); conv => whnf) | ((with_reducible refine mkmap_b ?_); conv => whnf) | ((with_reducible refine branch_d (fun hq => ?_) (fun hq => ?_)) <;> (try (exfalso; omega)) <;> (conv => whnf)) | ((with_reducible refine branch_e (fun hq => ?_) (fun hq => ?_)) <;> (try (exfalso; omega)) <;> (conv => whnf)) | ((with_reducible refine branch_n (fun hq => ?_) (fun hq => ?_)) <;> (try (exfalso; omega)) <;> (conv => whnf)) | ((with_reducible refine branch_i (fun hq => ?_) (fun hq => ?_)) <;> (try (exfalso; omega)) <;> (conv => whnf))))
  all_goals first
    | exact ret_p rfl (bool_eq (by symm; exact decide_eq_false (by omega)))
    | (refine ret_p rfl (bool_eq ?_); rw [Bool.eq_iff_iff]; simp only [decide_eq_true_eq]; omega)
    | trace_state
def foeB (id : Int) (l : List Int) (i : Nat) : Bool := decide (0 ≤ nth l i ∧ nth l i ≤ 9999 ∧ nth l i ≠ id ∧ (i = 0 ∨ nth l (i - 1) < nth l i))
def foesB (id : Int) (l : List Int) : Bool := (List.range l.length).all (foeB id l)
theorem foes_bad {id : Int} {l : List Int} {k : Nat} (hk : k < l.length) (h : foeB id l k = false) : foesB id l = false := by
  rw [foesB, List.all_eq_false]; exact ⟨k, List.mem_range.2 hk, by simp [h]⟩
theorem foes_good {id : Int} {l : List Int} (h : ∀ i, i < l.length → foeB id l i = true) : foesB id l = true := by
  rw [foesB, List.all_eq_true]; exact fun i hi => h i (List.mem_range.1 hi)
set_option maxHeartbeats 2000000 in
theorem vFoes_ok (id : Int) (l : List Int) (hl : l.length ≤ 1000000) : Good Try.prog TT false 84 [.int .i64 id, ints l] (· = .bool (foesB id l)) := by
  have LL : (l.map encI).length = l.length := List.length_map ..
  refine good_of mixed tabOk Try.func84 rfl rfl Try.ntmps84 Try.results84 rfl rfl ?_
  (conv => whnf); (repeat' (first | (refine arith_i ⟨by omega, by omega⟩ ?_; conv => whnf) | (refine arith_u ⟨by omega, by omega⟩ ?_; conv => whnf) | (refine arith_8 ⟨by omega, by omega⟩ ?_; conv => whnf) | (refine need_i (by first | omega | (simp only [List.length_cons, List.length_nil]; omega) | (simp only [List.length_append, List.length_cons, List.length_nil, List.length_map, List.length_replicate, List.length_modify]; omega)) ?_; conv => whnf) | ((with_reducible refine branch_tt ?_); conv => whnf) | ((with_reducible refine branch_ff ?_); conv => whnf) | (with_reducible refine branch_not ?_) | ((with_reducible refine slc_e ?_); conv => whnf) | ((with_reducible refine callS_a ?_); conv => whnf) | ((with_reducible refine bld_a ?_); conv => whnf) | ((with_reducible refine own_e ?_); conv => whnf) | ((with_reducible refine mkmap_b ?_); conv => whnf) | ((with_reducible refine branch_d (fun hq => ?_) (fun hq => ?_)) <;> (try (exfalso; omega)) <;> (conv => whnf)) | ((with_reducible refine branch_e (fun hq => ?_) (fun hq => ?_)) <;> (try (exfalso; omega)) <;> (conv => whnf)) | ((with_reducible refine branch_n (fun hq => ?_) (fun hq => ?_)) <;> (try (exfalso; omega)) <;> (conv => whnf)) | ((with_reducible refine branch_i (fun hq => ?_) (fun hq => ?_)) <;> (try (exfalso; omega)) <;> (conv => whnf))))
  refine loop_i (fun k : Nat => k ≤ l.length ∧ ∀ i, i < k → foeB id l i = true) (fun k => mkSt [(0, .int .i64 id), (1, ints l), (7, ints l), (8, .int .i64 (l.map encI).length), (9, .int .i64 k)] [] false) (fun k => l.length - k) 0 ⟨Nat.zero_le _, nofun⟩ (le_mk (by repeat' (first | exact trivial | rfl | apply And.intro)) (by repeat' (first | exact trivial | rfl | apply And.intro)) rfl) ?_
  rintro k ⟨hk, hall⟩
  (conv => whnf); (repeat' (first | (refine arith_i ⟨by omega, by omega⟩ ?_; conv => whnf) | (refine arith_u ⟨by omega, by omega⟩ ?_; conv => whnf) | (refine arith_8 ⟨by omega, by omega⟩ ?_; conv => whnf) | (refine need_i (by first | omega | (simp only [List.length_cons, List.length_nil]; omega) | (simp only [List.length_append, List.length_cons, List.length_nil, List.length_map, List.length_replicate, List.length_modify]; omega)) ?_; conv => whnf) | ((with_reducible refine branch_tt ?_); conv => whnf) | ((with_reducible refine branch_ff ?_); conv => whnf) | (with_reducible refine branch_not ?_) | (((refine idx_c (xs := l) (by omega) fun y hy => ?_; have hyn := nth_eq hy)); conv => whnf) | (((refine idx_m (xs := l) (by omega) (by omega) fun z hz => ?_; have hzn := nth_eq (k := k - 1) (show l[k - 1]? = some z from (by rw [← hz]; congr 1; omega)))); conv => whnf) | ((refine call_e (isNumber_ok _) ?_); conv => whnf) | ((with_reducible refine slc_e ?_); conv => whnf) | ((with_reducible refine callS_a ?_); conv => whnf) | ((with_reducible refine bld_a ?_); conv => whnf) | ((with_reducible refine own_e ?_); conv => whnf) | ((with_reducible refine mkmap_b ?_); conv => whnf) | ((with_reducible refine branch_d (fun hq => ?_) (fun hq => ?_)) <;> (try (exfalso; omega)) <;> (conv => whnf)) | ((with_reducible refine branch_e (fun hq => ?_) (fun hq => ?_)) <;> (try (exfalso; omega)) <;> (conv => whnf)) | ((with_reducible refine branch_n (fun hq => ?_) (fun hq => ?_)) <;> (try (exfalso; omega)) <;> (conv => whnf)) | ((with_reducible refine branch_i (fun hq => ?_) (fun hq => ?_)) <;> (try (exfalso; omega)) <;> (conv => whnf))))
  all_goals first
    | exact ret_p rfl (bool_eq (foes_bad (k := k) (by omega) (decide_eq_false (by omega))).symm)
    | (refine ⟨k + 1, ⟨by omega, fun i hi => ?_⟩, (le_mk (by repeat' (first | exact trivial | rfl | apply And.intro)) (by repeat' (first | exact trivial | rfl | apply And.intro)) rfl), by omega⟩
       by_cases e : i = k
       · subst e
         exact decide_eq_true (by omega)
       · exact hall i (by omega))
    | exact ret_p rfl (bool_eq (foes_good fun i hi => hall i (by omega)).symm)
    | trace_state
/-- The error of an item. -/
def emB (s : ByteArray) : Bool := s.toList == (⟨#[]⟩ : ByteArray).toList
def itemF (x : Itm) : Int := if ¬ (0 ≤ x.id ∧ x.id ≤ 9999 ∧ 1 ≤ x.ver ∧ x.ver ≤ 8) then 2 else if 40 < x.stem.size ∨ 6 < x.parts.length ∨ 8 < x.foes.length then 3 else if emB x.stem = true ∨ printB x.stem = false then 7 else if x.parts.length = 0 then 10 else if x.parts.all vPartB = false then 1 else if foesB x.id x.foes = false then 9 else 0
theorem all_bad {α : Type} {l : List α} {p : α → Bool} {k : Nat} {x : α} (h : l[k]? = some x) (hb : p x = false) : l.all p = false := by
  rw [List.all_eq_false]; exact ⟨x, List.mem_of_getElem? h, by simp [hb]⟩
theorem all_goodL {α : Type} {l : List α} {p : α → Bool} {k : Nat} (hk : l.length ≤ k) (h : ∀ i x, i < k → l[i]? = some x → p x = true) : l.all p = true := by
  rw [List.all_eq_true]
  intro x hx
  obtain ⟨i, hi, e⟩ := List.mem_iff_getElem.1 hx
  exact h i x (by omega) (by rw [← e]; exact List.getElem?_eq_getElem hi)
set_option maxHeartbeats 2000000 in
theorem iCheck_ok (x : Itm) (h1 : x.stem.size ≤ 1000000) (h2 : x.parts.length ≤ 1000000) (h3 : x.foes.length ≤ 1000000) : Good Try.prog TT false 54 [itmV x] (· = .int .i64 (itemF x)) := by
  have LP : (x.parts.map encPt).length = x.parts.length := List.length_map ..
  have LF : (x.foes.map encI).length = x.foes.length := List.length_map ..
  refine good_of mixed tabOk Try.func54 rfl rfl Try.ntmps54 Try.results54 rfl rfl ?_
  (conv => whnf); (repeat' (first | (refine arith_i ⟨by omega, by omega⟩ ?_; conv => whnf) | (refine arith_u ⟨by omega, by omega⟩ ?_; conv => whnf) | (refine arith_8 ⟨by omega, by omega⟩ ?_; conv => whnf) | (refine need_i (by first | omega | (simp only [List.length_cons, List.length_nil]; omega) | (simp only [List.length_append, List.length_cons, List.length_nil, List.length_map, List.length_replicate, List.length_modify]; omega)) ?_; conv => whnf) | ((with_reducible refine branch_tt ?_); conv => whnf) | ((with_reducible refine branch_ff ?_); conv => whnf) | (with_reducible refine branch_not ?_) | ((refine call_e (isNumber_ok x.id) ?_); conv => whnf) | ((refine call_e (printable_ok x.stem h1) ?_); conv => whnf) | ((with_reducible refine slc_e ?_); conv => whnf) | ((with_reducible refine callS_a ?_); conv => whnf) | ((with_reducible refine bld_a ?_); conv => whnf) | ((with_reducible refine own_e ?_); conv => whnf) | ((with_reducible refine mkmap_b ?_); conv => whnf) | ((with_reducible refine branch_d (fun hq => ?_) (fun hq => ?_)) <;> (try (exfalso; omega)) <;> (conv => whnf)) | ((with_reducible refine branch_e (fun hq => ?_) (fun hq => ?_)) <;> (try (exfalso; omega)) <;> (conv => whnf)) | ((with_reducible refine branch_n (fun hq => ?_) (fun hq => ?_)) <;> (try (exfalso; omega)) <;> (conv => whnf)) | ((with_reducible refine branch_i (fun hq => ?_) (fun hq => ?_)) <;> (try (exfalso; omega)) <;> (conv => whnf))))
  all_goals first
      | exact ret_p rfl (int_eq (by rw [itemF, if_pos (by omega)]))
      | exact ret_p rfl (int_eq (by rw [itemF, if_neg (by omega), if_pos (by omega)]))
      | exact ret_p rfl (int_eq (by rw [itemF, if_neg (by omega), if_neg (by omega), if_pos (by first | (left; assumption) | (right; assumption))]))
      | (have hem : emB x.stem = false := by assumption
         have hpr : printB x.stem = true := by assumption
         exact ret_p rfl (int_eq (by rw [itemF, if_neg (by omega), if_neg (by omega), if_neg (by simp [hem, hpr]), if_pos (by omega)])))
      | (have hem : emB x.stem = false := by assumption
         have hpr : printB x.stem = true := by assumption
         refine loop_i (fun k : Nat => k ≤ x.parts.length ∧ ∀ i p, i < k → x.parts[i]? = some p → vPartB p = true) (fun k => mkSt [(1, .ptr 1 0), (49, .lst 6 (x.parts.map encPt)), (50, .int .i64 (x.parts.map encPt).length), (51, .int .i64 k)] [(1, encX x)] false) (fun k => x.parts.length - k) 0 ⟨Nat.zero_le _, nofun⟩ (le_mk (by repeat' (first | exact trivial | rfl | apply And.intro)) (by repeat' (first | exact trivial | rfl | apply And.intro)) rfl) ?_
         rintro k ⟨hk, hall⟩
         (conv => whnf); (repeat' (first | (refine arith_i ⟨by omega, by omega⟩ ?_; conv => whnf) | (refine arith_u ⟨by omega, by omega⟩ ?_; conv => whnf) | (refine arith_8 ⟨by omega, by omega⟩ ?_; conv => whnf) | (refine need_i (by first | omega | (simp only [List.length_cons, List.length_nil]; omega) | (simp only [List.length_append, List.length_cons, List.length_nil, List.length_map, List.length_replicate, List.length_modify]; omega)) ?_; conv => whnf) | ((with_reducible refine branch_tt ?_); conv => whnf) | ((with_reducible refine branch_ff ?_); conv => whnf) | (with_reducible refine branch_not ?_) | (((refine idx_c (xs := x.parts) (by omega) fun p hp => ?_)); conv => whnf) | ((refine call_e (vPart_ok p) ?_); conv => whnf) | ((refine call_e (vFoes_ok x.id x.foes h3) ?_); conv => whnf) | ((with_reducible refine slc_e ?_); conv => whnf) | ((with_reducible refine callS_a ?_); conv => whnf) | ((with_reducible refine bld_a ?_); conv => whnf) | ((with_reducible refine own_e ?_); conv => whnf) | ((with_reducible refine mkmap_b ?_); conv => whnf) | ((with_reducible refine branch_d (fun hq => ?_) (fun hq => ?_)) <;> (try (exfalso; omega)) <;> (conv => whnf)) | ((with_reducible refine branch_e (fun hq => ?_) (fun hq => ?_)) <;> (try (exfalso; omega)) <;> (conv => whnf)) | ((with_reducible refine branch_n (fun hq => ?_) (fun hq => ?_)) <;> (try (exfalso; omega)) <;> (conv => whnf)) | ((with_reducible refine branch_i (fun hq => ?_) (fun hq => ?_)) <;> (try (exfalso; omega)) <;> (conv => whnf))))
         all_goals first
           | exact ret_p rfl (int_eq (by rw [itemF, if_neg (by omega), if_neg (by omega), if_neg (by simp [hem, hpr]), if_neg (by omega), if_pos (all_bad hp (by assumption))]))
           | (refine ⟨k + 1, ⟨by omega, fun i p' hi hp' => ?_⟩, (le_mk (by repeat' (first | exact trivial | rfl | apply And.intro)) (by repeat' (first | exact trivial | rfl | apply And.intro)) rfl), by omega⟩
              by_cases e : i = k
              · subst e
                rw [hp] at hp'
                injection hp' with hp'
                subst hp'
                assumption
              · exact hall i p' (by omega) hp')
           | (have hv := all_goodL (p := vPartB) (l := x.parts) (by omega) hall
              first
                | exact ret_p rfl (int_eq (by rw [itemF, if_neg (by omega), if_neg (by omega), if_neg (by simp [hem, hpr]), if_neg (by omega), if_neg (by rw [hv]; decide), if_pos (by assumption)]))
                | exact ret_p rfl (int_eq (by rw [itemF, if_neg (by omega), if_neg (by omega), if_neg (by simp [hem, hpr]), if_neg (by omega), if_neg (by rw [hv]; decide), if_neg (by simp [*])]))))
      | trace_state
set_option maxHeartbeats 2000000 in
theorem rICheck_ok (x : Itm) (h1 : x.stem.size ≤ 1000000) (h2 : x.parts.length ≤ 1000000) (h3 : x.foes.length ≤ 1000000) : Good Try.prog TT false 56 [itmV x] (· = .int .i64 (itemF x)) := by
  have LP : (x.parts.map encPt).length = x.parts.length := List.length_map ..
  have LF : (x.foes.map encI).length = x.foes.length := List.length_map ..
  refine good_of mixed tabOk Try.func56 rfl rfl Try.ntmps56 Try.results56 rfl rfl ?_
  (conv => whnf); (repeat' (first | (refine arith_i ⟨by omega, by omega⟩ ?_; conv => whnf) | (refine arith_u ⟨by omega, by omega⟩ ?_; conv => whnf) | (refine arith_8 ⟨by omega, by omega⟩ ?_; conv => whnf) | (refine need_i (by first | omega | (simp only [List.length_cons, List.length_nil]; omega) | (simp only [List.length_append, List.length_cons, List.length_nil, List.length_map, List.length_replicate, List.length_modify]; omega)) ?_; conv => whnf) | ((with_reducible refine branch_tt ?_); conv => whnf) | ((with_reducible refine branch_ff ?_); conv => whnf) | (with_reducible refine branch_not ?_) | ((with_reducible refine slc_e ?_); conv => whnf) | ((with_reducible refine callS_a ?_); conv => whnf) | ((with_reducible refine bld_a ?_); conv => whnf) | ((with_reducible refine own_e ?_); conv => whnf) | ((with_reducible refine mkmap_b ?_); conv => whnf) | (refine draw_i 42 plGL06a_0 (by decide +kernel) ?_; (conv => whnf); fail_if_success (guard_target =~ False)) | (refine draw_i 42 plGL06a_1 (by decide +kernel) ?_; (conv => whnf); fail_if_success (guard_target =~ False)) | (refine draw_i 42 plGL06a_2 (by decide +kernel) ?_; (conv => whnf); fail_if_success (guard_target =~ False)) | ((with_reducible refine And.intro ?_ ?_) <;> (conv => whnf)) | (with_reducible exact trivial) | ((with_reducible refine branch_d (fun hq => ?_) (fun hq => ?_)) <;> (try (exfalso; omega)) <;> (conv => whnf)) | ((with_reducible refine branch_e (fun hq => ?_) (fun hq => ?_)) <;> (try (exfalso; omega)) <;> (conv => whnf)) | ((with_reducible refine branch_n (fun hq => ?_) (fun hq => ?_)) <;> (try (exfalso; omega)) <;> (conv => whnf)) | ((with_reducible refine branch_i (fun hq => ?_) (fun hq => ?_)) <;> (try (exfalso; omega)) <;> (conv => whnf))))
  all_goals first
      | exact ret_p rfl (int_eq (by rw [itemF, if_pos (by omega)]))
      | exact ret_p rfl (int_eq (by rw [itemF, if_neg (by omega), if_pos (by omega)]))
      | exact ret_p rfl (int_eq (by rw [itemF, if_neg (by omega), if_neg (by omega), if_pos (by first | (left; assumption) | (right; assumption))]))
      | skip
  have hem : emB x.stem = false := by assumption
  refine loop_i (fun k : Nat => k ≤ x.stem.size ∧ ∀ i b, i < k → x.stem[i]? = some b → prB b = true) (fun k => mkSt [(1, .ptr 1 0), (3, .int .i64 k)] [(1, encX x)] false) (fun k => x.stem.size - k) 0 ⟨Nat.zero_le _, nofun⟩ (le_mk (by repeat' (first | exact trivial | rfl | apply And.intro)) (by repeat' (first | exact trivial | rfl | apply And.intro)) rfl) ?_
  rintro k ⟨hk, hall⟩
  (conv => whnf); (repeat' (first | (refine arith_i ⟨by omega, by omega⟩ ?_; conv => whnf) | (refine arith_u ⟨by omega, by omega⟩ ?_; conv => whnf) | (refine arith_8 ⟨by omega, by omega⟩ ?_; conv => whnf) | (refine need_i (by first | omega | (simp only [List.length_cons, List.length_nil]; omega) | (simp only [List.length_append, List.length_cons, List.length_nil, List.length_map, List.length_replicate, List.length_modify]; omega)) ?_; conv => whnf) | ((with_reducible refine branch_tt ?_); conv => whnf) | ((with_reducible refine branch_ff ?_); conv => whnf) | (with_reducible refine branch_not ?_) | (((refine byte_i (by omega) (byteAt' (by omega)) ?_; have hb : x.stem[k]? = some x.stem[k] := (getElem?_pos x.stem k (by omega)))); conv => whnf) | ((with_reducible refine slc_e ?_); conv => whnf) | ((with_reducible refine callS_a ?_); conv => whnf) | ((with_reducible refine bld_a ?_); conv => whnf) | ((with_reducible refine own_e ?_); conv => whnf) | ((with_reducible refine mkmap_b ?_); conv => whnf) | (refine draw_i 42 plGL06a_0 (by decide +kernel) ?_; (conv => whnf); fail_if_success (guard_target =~ False)) | (refine draw_i 42 plGL06a_1 (by decide +kernel) ?_; (conv => whnf); fail_if_success (guard_target =~ False)) | (refine draw_i 42 plGL06a_2 (by decide +kernel) ?_; (conv => whnf); fail_if_success (guard_target =~ False)) | ((with_reducible refine And.intro ?_ ?_) <;> (conv => whnf)) | (with_reducible exact trivial) | ((with_reducible refine branch_d (fun hq => ?_) (fun hq => ?_)) <;> (try (exfalso; omega)) <;> (conv => whnf)) | ((with_reducible refine branch_e (fun hq => ?_) (fun hq => ?_)) <;> (try (exfalso; omega)) <;> (conv => whnf)) | ((with_reducible refine branch_n (fun hq => ?_) (fun hq => ?_)) <;> (try (exfalso; omega)) <;> (conv => whnf)) | ((with_reducible refine branch_i (fun hq => ?_) (fun hq => ?_)) <;> (try (exfalso; omega)) <;> (conv => whnf))))
  all_goals first
    | (have hb0 := print_bad hb (by simp [prB]; omega)
       exact ret_p rfl (int_eq (by rw [itemF, if_neg (by omega), if_neg (by omega), if_pos (.inr hb0)])))
    | (refine ⟨k + 1, ⟨by omega, fun i b hi hib => ?_⟩, (le_mk (by repeat' (first | exact trivial | rfl | apply And.intro)) (by repeat' (first | exact trivial | rfl | apply And.intro)) rfl), by omega⟩
       by_cases e : i = k
       · subst e
         rw [hb] at hib
         injection hib with hib
         subst hib
         simp [prB]; omega
       · exact hall i b (by omega) hib)
    | (have hpr := print_good (s := x.stem) fun i b hi hib => hall i b (by omega) hib
       exact ret_p rfl (int_eq (by rw [itemF, if_neg (by omega), if_neg (by omega), if_neg (by simp [hem, hpr]), if_pos (by omega)])))
    | skip
  have hpr := print_good (s := x.stem) fun i b hi hib => hall i b (by omega) hib
  refine loop_i (fun k : Nat => k ≤ x.parts.length ∧ ∀ i p, i < k → x.parts[i]? = some p → vPartB p = true) (fun k => mkSt [(1, .ptr 1 0), (4, .int .i64 k)] [(1, encX x)] false) (fun k => x.parts.length - k) 0 ⟨Nat.zero_le _, nofun⟩ (le_mk (by repeat' (first | exact trivial | rfl | apply And.intro)) (by repeat' (first | exact trivial | rfl | apply And.intro)) rfl) ?_
  rintro k2 ⟨hk2, hall2⟩
  (conv => whnf); (repeat' (first | (refine arith_i ⟨by omega, by omega⟩ ?_; conv => whnf) | (refine arith_u ⟨by omega, by omega⟩ ?_; conv => whnf) | (refine arith_8 ⟨by omega, by omega⟩ ?_; conv => whnf) | (refine need_i (by first | omega | (simp only [List.length_cons, List.length_nil]; omega) | (simp only [List.length_append, List.length_cons, List.length_nil, List.length_map, List.length_replicate, List.length_modify]; omega)) ?_; conv => whnf) | ((with_reducible refine branch_tt ?_); conv => whnf) | ((with_reducible refine branch_ff ?_); conv => whnf) | (with_reducible refine branch_not ?_) | (((refine idx_c (xs := x.parts) (by omega) fun p hp => ?_)); conv => whnf) | ((refine call_e (rPart_ok p) ?_); conv => whnf) | ((with_reducible refine slc_e ?_); conv => whnf) | ((with_reducible refine callS_a ?_); conv => whnf) | ((with_reducible refine bld_a ?_); conv => whnf) | ((with_reducible refine own_e ?_); conv => whnf) | ((with_reducible refine mkmap_b ?_); conv => whnf) | (refine draw_i 42 plGL06a_0 (by decide +kernel) ?_; (conv => whnf); fail_if_success (guard_target =~ False)) | (refine draw_i 42 plGL06a_1 (by decide +kernel) ?_; (conv => whnf); fail_if_success (guard_target =~ False)) | (refine draw_i 42 plGL06a_2 (by decide +kernel) ?_; (conv => whnf); fail_if_success (guard_target =~ False)) | ((with_reducible refine And.intro ?_ ?_) <;> (conv => whnf)) | (with_reducible exact trivial) | ((with_reducible refine branch_d (fun hq => ?_) (fun hq => ?_)) <;> (try (exfalso; omega)) <;> (conv => whnf)) | ((with_reducible refine branch_e (fun hq => ?_) (fun hq => ?_)) <;> (try (exfalso; omega)) <;> (conv => whnf)) | ((with_reducible refine branch_n (fun hq => ?_) (fun hq => ?_)) <;> (try (exfalso; omega)) <;> (conv => whnf)) | ((with_reducible refine branch_i (fun hq => ?_) (fun hq => ?_)) <;> (try (exfalso; omega)) <;> (conv => whnf))))
  all_goals first
    | (have hb0 := all_bad hp hq
       exact ret_p rfl (int_eq (by rw [itemF, if_neg (by omega), if_neg (by omega), if_neg (by simp [hem, hpr]), if_neg (by omega), if_pos hb0])))
    | (refine ⟨k2 + 1, ⟨by omega, fun i p' hi hp' => ?_⟩, (le_mk (by repeat' (first | exact trivial | rfl | apply And.intro)) (by repeat' (first | exact trivial | rfl | apply And.intro)) rfl), by omega⟩
       by_cases e : i = k2
       · subst e
         rw [hp] at hp'
         injection hp' with hp'
         subst hp'
         assumption
       · exact hall2 i p' (by omega) hp')
    | skip
  have hvp := all_goodL (p := vPartB) (l := x.parts) (by omega) hall2
  refine loop_i (fun k : Nat => k ≤ x.foes.length ∧ ∀ i, i < k → foeB x.id x.foes i = true) (fun k => mkSt [(1, .ptr 1 0), (5, .int .i64 k)] [(1, encX x)] false) (fun k => x.foes.length - k) 0 ⟨Nat.zero_le _, nofun⟩ (le_mk (by repeat' (first | exact trivial | rfl | apply And.intro)) (by repeat' (first | exact trivial | rfl | apply And.intro)) rfl) ?_
  rintro k3 ⟨hk3, hall3⟩
  (conv => whnf); (repeat' (first | (refine arith_i ⟨by omega, by omega⟩ ?_; conv => whnf) | (refine arith_u ⟨by omega, by omega⟩ ?_; conv => whnf) | (refine arith_8 ⟨by omega, by omega⟩ ?_; conv => whnf) | (refine need_i (by first | omega | (simp only [List.length_cons, List.length_nil]; omega) | (simp only [List.length_append, List.length_cons, List.length_nil, List.length_map, List.length_replicate, List.length_modify]; omega)) ?_; conv => whnf) | ((with_reducible refine branch_tt ?_); conv => whnf) | ((with_reducible refine branch_ff ?_); conv => whnf) | (with_reducible refine branch_not ?_) | ((refine idx_cs (by assumption) ?_); conv => whnf) | (((refine idx_c (xs := x.foes) (by omega) fun y hy => ?_; have hyn := nth_eq hy)); conv => whnf) | (((refine idx_m (xs := x.foes) (by omega) (by omega) fun z hz => ?_; have hzn := nth_eq (k := k3 - 1) (show x.foes[k3 - 1]? = some z from (by rw [← hz]; congr 1; omega)))); conv => whnf) | ((with_reducible refine slc_e ?_); conv => whnf) | ((with_reducible refine callS_a ?_); conv => whnf) | ((with_reducible refine bld_a ?_); conv => whnf) | ((with_reducible refine own_e ?_); conv => whnf) | ((with_reducible refine mkmap_b ?_); conv => whnf) | (refine draw_i 42 plGL06a_0 (by decide +kernel) ?_; (conv => whnf); fail_if_success (guard_target =~ False)) | (refine draw_i 42 plGL06a_1 (by decide +kernel) ?_; (conv => whnf); fail_if_success (guard_target =~ False)) | (refine draw_i 42 plGL06a_2 (by decide +kernel) ?_; (conv => whnf); fail_if_success (guard_target =~ False)) | ((with_reducible refine And.intro ?_ ?_) <;> (conv => whnf)) | (with_reducible exact trivial) | ((with_reducible refine branch_d (fun hq => ?_) (fun hq => ?_)) <;> (try (exfalso; omega)) <;> (conv => whnf)) | ((with_reducible refine branch_e (fun hq => ?_) (fun hq => ?_)) <;> (try (exfalso; omega)) <;> (conv => whnf)) | ((with_reducible refine branch_n (fun hq => ?_) (fun hq => ?_)) <;> (try (exfalso; omega)) <;> (conv => whnf)) | ((with_reducible refine branch_i (fun hq => ?_) (fun hq => ?_)) <;> (try (exfalso; omega)) <;> (conv => whnf))))
  all_goals first
    | (have hb0 := foes_bad (id := x.id) (l := x.foes) (k := k3) (by omega) (decide_eq_false (by omega))
       exact ret_p rfl (int_eq (by rw [itemF, if_neg (by omega), if_neg (by omega), if_neg (by simp [hem, hpr]), if_neg (by omega), if_neg (by rw [hvp]; decide), if_pos hb0])))
    | (have hg0 := foes_good (id := x.id) (l := x.foes) fun i hi => hall3 i (by omega)
       exact ret_p rfl (int_eq (by rw [itemF, if_neg (by omega), if_neg (by omega), if_neg (by simp [hem, hpr]), if_neg (by omega), if_neg (by rw [hvp]; decide), if_neg (by rw [hg0]; decide)])))
    | (refine ⟨k3 + 1, ⟨by omega, fun i hi => ?_⟩, (le_mk (by repeat' (first | exact trivial | rfl | apply And.intro)) (by repeat' (first | exact trivial | rfl | apply And.intro)) rfl), by omega⟩
       by_cases e : i = k3
       · subst e
         exact decide_eq_true (by omega)
       · exact hall3 i (by omega))
    | trace_state
def encRef (p : Int × Int) : List AV := [.int .i64 p.1, .int .i64 p.2]
/-- An item that can be handled. -/
def ItmS (x : Itm) : Prop := x.stem.size ≤ 1000 ∧ x.parts.length ≤ 1000 ∧ x.foes.length ≤ 1000
end Go.Proofs.Ytiionjpinainlaa
end

/- Layer 6: the generators of items. -/
section
namespace Go.Proofs.Ytiionjpinainlaa
set_option linter.unusedVariables false
set_option linter.unusedSimpArgs false
set_option linter.unnecessarySimpa false
set_option linter.unusedSectionVars false
set_option maxRecDepth 10000
open Go.RowKit
def plGL06c_0 : Plan := (.take 0 (.take 1 (.take 2 (.alt 3 (.alt 4 (.alt 5 (.take 6 (.alt 7 .done .stop)) .stop) .stop) .stop))))
def plGL06c_1 : Plan := (.take 0 (.take 2 (.alt 1 (.alt 3 (.alt 4 (.alt 5 (.take 6 (.alt 7 .done .stop)) .stop) .stop) .stop) (.alt 3 (.alt 1 (.alt 4 (.alt 5 (.take 6 (.alt 7 .done .stop)) .stop) .stop) (.alt 4 (.alt 1 (.alt 5 (.take 6 (.alt 7 .done .stop)) .stop) .stop) .stop)) .stop))))
def plGL06c_2 : Plan := (.take 0 (.take 1 (.take 2 (.take 3 (.alt 4 (.alt 5 (.alt 6 (.alt 7 (.take 8 (.alt 9 .done .stop)) .stop) .stop) .stop) .stop)))))
def plGL06c_3 : Plan := (.take 0 (.take 2 (.take 3 (.alt 1 (.alt 4 (.alt 5 (.alt 6 (.alt 7 (.take 8 (.alt 9 .done .stop)) .stop) .stop) .stop) .stop) (.alt 4 (.alt 1 (.alt 5 (.alt 6 (.alt 7 (.take 8 (.alt 9 .done .stop)) .stop) .stop) .stop) (.alt 5 (.alt 1 (.alt 6 (.alt 7 (.take 8 (.alt 9 .done .stop)) .stop) .stop) (.alt 6 (.alt 1 (.alt 7 (.take 8 (.alt 9 .done .stop)) .stop) .stop) .stop)) .stop)) .stop)))))
def plGL06c_4 : Plan := (.take 0 (.take 1 (.take 2 (.take 3 (.take 4 (.take 5 (.take 6 (.take 7 (.take 8 (.take 9 (.take 10 (.take 11 (.take 12 (.take 13 (.take 14 (.take 15 (.take 16 (.take 17 (.take 18 (.take 19 (.take 20 (.take 21 (.take 22 (.take 23 (.take 24 (.take 25 (.alt 26 (.alt 27 (.take 28 (.alt 29 .done .stop)) .stop) .stop)))))))))))))))))))))))))))
theorem snocI6 {xs : List Int} {x : Int} : xs.map encI ++ [[AV.int .i64 x]] = (xs ++ [x]).map encI := by simp [encI]
theorem strOf_one (n : Int) : (strOf [n]).size = 1 := by simp [strOf]
/-- A text of letters. -/
def goodS (s : ByteArray) : Prop := s.data.toList.all prB = true
theorem goodS_empty : goodS ⟨#[]⟩ := rfl
theorem goodS_q : goodS ⟨#[113]⟩ := rfl
theorem goodS_app {a b : ByteArray} (h1 : goodS a) (h2 : goodS b) : goodS (a ++ b) := by
  unfold goodS at *
  rw [ByteArray.data_append, Array.toList_append, List.all_append, h1, h2]; rfl
theorem goodS_one {n : Int} (h : 0 ≤ n ∧ n < 3) : goodS (strOf [97 + n]) := by
  have : n = 0 ∨ n = 1 ∨ n = 2 := by omega
  rcases this with rfl | rfl | rfl <;> rfl
theorem goodS_print {s : ByteArray} (h : goodS s) : printB s = true :=
  print_good fun i b hi hb => by
    unfold goodS at h
    rw [List.all_eq_true] at h
    refine h b ?_
    rw [getElem?_pos s i hi] at hb
    injection hb with hb
    rw [← hb]
    exact Array.mem_toList_iff.2 (Array.getElem_mem (xs := s.data) hi)
theorem emB_q {s : ByteArray} : emB ((⟨#[113]⟩ : ByteArray) ++ s) = false := by
  unfold emB
  rw [ByteArray.toList_eq, ByteArray.toList_eq, ByteArray.data_append, Array.toList_append]
  rfl
set_option maxHeartbeats 4000000 in
theorem word_ok (n : Int) (hn : 1 ≤ n ∧ n ≤ 30) : Good Try.prog TT true 51 [.tape, .int .i64 n] (fun r => ∃ s : ByteArray, r = .str s ∧ s.size ≤ 30 ∧ goodS s) := by
  refine good_of mixed tabOk Try.func51 rfl rfl Try.ntmps51 Try.results51 rfl rfl ?_
  (conv => whnf); (repeat' (first | (refine arith_i ⟨by omega, by omega⟩ ?_; conv => whnf) | (refine arith_u ⟨by omega, by omega⟩ ?_; conv => whnf) | (refine arith_8 ⟨by omega, by omega⟩ ?_; conv => whnf) | (refine need_i (by first | omega | (simp only [List.length_cons, List.length_nil]; omega) | (simp only [List.length_append, List.length_cons, List.length_nil, List.length_map, List.length_replicate, List.length_modify]; omega)) ?_; conv => whnf) | ((with_reducible refine branch_tt ?_); conv => whnf) | ((with_reducible refine branch_ff ?_); conv => whnf) | (with_reducible refine branch_not ?_) | (((refine call_i (range_ok _ _ (by omega) (by omega)) fun r hr => ?_; obtain ⟨m1, rfl, -, h6⟩ := hr; have hm1 := h6 (by omega))); conv => whnf) | ((with_reducible refine slc_e ?_); conv => whnf) | ((with_reducible refine callS_a ?_); conv => whnf) | ((with_reducible refine bld_a ?_); conv => whnf) | ((with_reducible refine own_e ?_); conv => whnf) | ((with_reducible refine mkmap_b ?_); conv => whnf) | ((with_reducible refine branch_d (fun hq => ?_) (fun hq => ?_)) <;> (try (exfalso; omega)) <;> (conv => whnf)) | ((with_reducible refine branch_e (fun hq => ?_) (fun hq => ?_)) <;> (try (exfalso; omega)) <;> (conv => whnf)) | ((with_reducible refine branch_n (fun hq => ?_) (fun hq => ?_)) <;> (try (exfalso; omega)) <;> (conv => whnf)) | ((with_reducible refine branch_i (fun hq => ?_) (fun hq => ?_)) <;> (try (exfalso; omega)) <;> (conv => whnf))))
  refine loop_i2 (fun (k : Nat) (s : ByteArray) => (k : Int) ≤ m1 ∧ (s.size : Int) = m1 - k ∧ goodS s) (fun k s => mkSt [(0, .tape), (5, .str s), (6, .int .i64 k)] [] true) (fun k _ => k) m1.toNat ⟨#[]⟩ ⟨by omega, by show ((0 : Nat) : Int) = _; omega, goodS_empty⟩ (by rw [show ((m1.toNat : Nat) : Int) = m1 by omega]; exact (le_mk (by repeat' (first | exact trivial | rfl | apply And.intro)) (by repeat' (first | exact trivial | rfl | apply And.intro)) rfl)) ?_
  rintro k s ⟨hk, hs, hg⟩
  (conv => whnf); (repeat' (first | (refine arith_i ⟨by omega, by omega⟩ ?_; conv => whnf) | (refine arith_u ⟨by omega, by omega⟩ ?_; conv => whnf) | (refine arith_8 ⟨by omega, by omega⟩ ?_; conv => whnf) | (refine need_i (by first | omega | (simp only [List.length_cons, List.length_nil]; omega) | (simp only [List.length_append, List.length_cons, List.length_nil, List.length_map, List.length_replicate, List.length_modify]; omega)) ?_; conv => whnf) | ((with_reducible refine branch_tt ?_); conv => whnf) | ((with_reducible refine branch_ff ?_); conv => whnf) | (with_reducible refine branch_not ?_) | (((refine call_i (next_ok _ (by omega)) fun r hr => ?_; obtain ⟨m2, rfl, -, h6⟩ := hr; have hm2 := h6 (by omega))); conv => whnf) | (((refine toStr_i [97 + m2] rfl ?_; have hs1 := strOf_one (97 + m2))); conv => whnf) | ((with_reducible refine slc_e ?_); conv => whnf) | ((with_reducible refine callS_a ?_); conv => whnf) | ((with_reducible refine bld_a ?_); conv => whnf) | ((with_reducible refine own_e ?_); conv => whnf) | ((with_reducible refine mkmap_b ?_); conv => whnf) | ((with_reducible refine branch_d (fun hq => ?_) (fun hq => ?_)) <;> (try (exfalso; omega)) <;> (conv => whnf)) | ((with_reducible refine branch_e (fun hq => ?_) (fun hq => ?_)) <;> (try (exfalso; omega)) <;> (conv => whnf)) | ((with_reducible refine branch_n (fun hq => ?_) (fun hq => ?_)) <;> (try (exfalso; omega)) <;> (conv => whnf)) | ((with_reducible refine branch_i (fun hq => ?_) (fun hq => ?_)) <;> (try (exfalso; omega)) <;> (conv => whnf))))
  · refine ⟨k - 1, s ++ strOf [97 + m2], ⟨by omega, by rw [ByteArray.size_append]; omega, goodS_app hg (goodS_one hm2)⟩, ?_, by omega⟩
    rw [show ((k - 1 : Nat) : Int) = (k : Int) - 1 by omega]
    exact (le_mk (by repeat' (first | exact trivial | rfl | apply And.intro)) (by repeat' (first | exact trivial | rfl | apply And.intro)) rfl)
  · exact ret_p rfl ⟨s, rfl, by omega, hg⟩
theorem part_r {a b c d e f : Int} {n : Int} (h : n = 0 → vPartB ⟨a, b, c, d, e, f⟩ = true) : aret (.agg [.int .i64 a, .int .i64 b, .int .i64 c, .int .i64 d, .int .i64 e, .int .i64 f]) (fun r => ∃ p, r = .agg (encPt p) ∧ (n = 0 → vPartB p = true)) := ret_a (cs' := encPt ⟨a, b, c, d, e, f⟩) ⟨rc_p rfl, rc_p rfl, rc_p rfl, rc_p rfl, rc_p rfl, rc_p rfl, trivial⟩ ⟨⟨a, b, c, d, e, f⟩, rfl, h⟩
set_option maxHeartbeats 4000000 in
theorem part_ok (n : Int) (hn : 0 ≤ n ∧ n ≤ 100) : Good Try.prog TT true 52 [.tape, .int .i64 n] (fun r => ∃ p, r = .agg (encPt p) ∧ (n = 0 → vPartB p = true)) := by
  refine good_of mixed tabOk Try.func52 rfl rfl Try.ntmps52 Try.results52 rfl rfl ?_
  (conv => whnf); (repeat' (first | (refine arith_i ⟨by omega, by omega⟩ ?_; conv => whnf) | (refine arith_u ⟨by omega, by omega⟩ ?_; conv => whnf) | (refine arith_8 ⟨by omega, by omega⟩ ?_; conv => whnf) | (refine need_i (by first | omega | (simp only [List.length_cons, List.length_nil]; omega) | (simp only [List.length_append, List.length_cons, List.length_nil, List.length_map, List.length_replicate, List.length_modify]; omega)) ?_; conv => whnf) | ((with_reducible refine branch_tt ?_); conv => whnf) | ((with_reducible refine branch_ff ?_); conv => whnf) | (with_reducible refine branch_not ?_) | (((refine call_i (range_ok _ _ (by omega) (by omega)) fun r hr => ?_; obtain ⟨m1, rfl, -, h6⟩ := hr; have hm1 := h6 (by omega))); conv => whnf) | (((refine call_i (next_ok _ (by omega)) fun r hr => ?_; obtain ⟨m1, rfl, -, h6⟩ := hr; have hm1 := h6 (by omega))); conv => whnf) | (((refine call_i (one_ok _ (by omega)) fun r hr => ?_; obtain ⟨b1, rfl⟩ := hr)); conv => whnf) | (((refine call_i (pick_ok [0, 40, 41, -1] (by decide) (by decide)) fun r hr => ?_; obtain ⟨x, rfl, hx⟩ := hr)); conv => whnf) | (((refine call_i wild_ok fun r hr => ?_; obtain ⟨x, rfl, hx⟩ := hr)); conv => whnf) | ((with_reducible refine slc_e ?_); conv => whnf) | ((with_reducible refine callS_a ?_); conv => whnf) | ((with_reducible refine bld_a ?_); conv => whnf) | ((with_reducible refine own_e ?_); conv => whnf) | ((with_reducible refine mkmap_b ?_); conv => whnf) | ((with_reducible refine branch_d (fun hq => ?_) (fun hq => ?_)) <;> (try (exfalso; omega)) <;> (conv => whnf)) | ((with_reducible refine branch_e (fun hq => ?_) (fun hq => ?_)) <;> (try (exfalso; omega)) <;> (conv => whnf)) | ((with_reducible refine branch_n (fun hq => ?_) (fun hq => ?_)) <;> (try (exfalso; omega)) <;> (conv => whnf)) | ((with_reducible refine branch_i (fun hq => ?_) (fun hq => ?_)) <;> (try (exfalso; omega)) <;> (conv => whnf))))
  all_goals first
    | exact part_r (fun h0 => by exfalso; omega)
    | exact part_r (fun h0 => decide_eq_true (by dsimp only; omega))
    | trace_state
theorem item_zero {x : Itm} (h1 : 0 ≤ x.id ∧ x.id ≤ 9999) (h2 : 1 ≤ x.ver ∧ x.ver ≤ 8) (h3 : x.stem.size ≤ 40) (h4 : emB x.stem = false) (h5 : printB x.stem = true) (h6 : 1 ≤ x.parts.length ∧ x.parts.length ≤ 6) (h7 : ∀ p ∈ x.parts, vPartB p = true) (h8 : x.foes.length ≤ 8) (h9 : foesB x.id x.foes = true) : itemF x = 0 := by
  have h70 : x.parts.all vPartB = true := List.all_eq_true.2 h7
  unfold itemF
  rw [if_neg (by omega), if_neg (by omega), if_neg (by simp [h4, h5]), if_neg (by omega), if_neg (by simp [h70]), if_neg (by simp [h9])]
/-- Enemies of the tape ascend below j, without id. -/
def FoeG (id : Int) (j : Nat) (fs : List Int) : Prop := (∀ x ∈ fs, 0 ≤ x ∧ x < j ∧ x ≠ id) ∧ fs.Pairwise (· < ·)
theorem FoeG.nil {id : Int} {j : Nat} : FoeG id j [] := ⟨by simp, .nil⟩
theorem FoeG.skip {id : Int} {j : Nat} {fs : List Int} (h : FoeG id j fs) : FoeG id (j + 1) fs := ⟨fun r hr => by have := h.1 r hr; omega, h.2⟩
theorem FoeG.snoc {id : Int} {j : Nat} {fs : List Int} (h : FoeG id j fs) (hj : (j : Int) ≠ id) : FoeG id (j + 1) (fs ++ [(j : Int)]) := by
  refine ⟨fun r hr => ?_, List.pairwise_append.2 ⟨h.2, List.pairwise_singleton .., fun x hx y hy => ?_⟩⟩
  · rcases List.mem_append.1 hr with hr | hr
    · have := h.1 r hr; omega
    · rw [List.mem_singleton.1 hr]; omega
  · rw [List.mem_singleton.1 hy]
    have := h.1 x hx
    omega
theorem FoeG.foes {id : Int} {j : Nat} {fs : List Int} (h : FoeG id j fs) (hj : j ≤ 100) : foesB id fs = true :=
  foes_good fun k hk => by
    have h2 : fs[k]? = some fs[k] := List.getElem?_eq_getElem hk
    have m := h.1 fs[k] (List.getElem_mem hk)
    have e2 := nth_eq h2
    rw [foeB, decide_eq_true_eq, e2]
    refine ⟨by omega, by omega, m.2.2, ?_⟩
    rcases Nat.eq_zero_or_pos k with h0 | h0
    · exact .inl h0
    · refine .inr ?_
      rw [nth_eq (show fs[k - 1]? = some fs[k - 1] from List.getElem?_eq_getElem (by omega))]
      exact List.pairwise_iff_getElem.1 h.2 (k - 1) k (by omega) hk (by omega)
theorem idx3 {a b c : List AV} {n : Int} {K : List AV → Prop} (h0 : 0 ≤ n) (h1 : n < 3) (ha : K a) (hb : K b) (hc : K c) : idx [a, b, c] n K := by
  have : n = 0 ∨ n = 1 ∨ n = 2 := by omega
  rcases this with rfl | rfl | rfl
  · exact ⟨⟨by omega, a, rfl, ha⟩⟩
  · exact ⟨⟨by omega, b, rfl, hb⟩⟩
  · exact ⟨⟨by omega, c, rfl, hc⟩⟩
/-- An item of the tape; without a mistake it is valid. -/
structure ItmG (n id ver : Int) (x : Itm) : Prop where
  small : ItmS x
  ok : n = 0 → 0 ≤ id ∧ id ≤ 9999 → 1 ≤ ver ∧ ver ≤ 8 → itemF x = 0 ∧ x.id = id ∧ x.ver = ver
theorem item_ret {n id ver : Int} {a b : Int} {s : ByteArray} {t e t' e' : Nat} {es fe : List (List AV)} {ps : List Prt} {fs : List Int} (hp : es = ps.map encPt) (hf : fe = fs.map encI) (h1 : s.size ≤ 1000) (h2 : ps.length ≤ 1000) (h3 : fs.length ≤ 1000) (h4 : n = 0 → 0 ≤ id ∧ id ≤ 9999 → 1 ≤ ver ∧ ver ≤ 8 → itemF ⟨a, b, s, ps, fs⟩ = 0 ∧ a = id ∧ b = ver) :
    aret (.agg [.int .i64 a, .int .i64 b, .str s, .own t e 6 es, .own t' e' 1 fe]) (fun r => ∃ x, r = itmV x ∧ ItmG n id ver x) := by
  subst hp hf
  exact ret_a (cs' := encX ⟨a, b, s, ps, fs⟩) ⟨rc_p rfl, rc_p rfl, rc_p rfl, rc_o' rfl, rc_o' rfl, trivial⟩ ⟨_, rfl, ⟨h1, h2, h3⟩, h4⟩
theorem item_retn {n id ver : Int} {a b : Int} {s : ByteArray} {t' e' : Nat} {fe : List (List AV)} {fs : List Int} (hf : fe = fs.map encI) (h1 : s.size ≤ 1000) (h3 : fs.length ≤ 1000) (hn : n ≠ 0) :
    aret (.agg [.int .i64 a, .int .i64 b, .str s, .nil, .own t' e' 1 fe]) (fun r => ∃ x, r = itmV x ∧ ItmG n id ver x) := by
  subst hf
  exact ret_a (cs' := encX ⟨a, b, s, [], fs⟩) ⟨rc_p rfl, rc_p rfl, rc_p rfl, rc_n, rc_o' rfl, trivial⟩ ⟨_, rfl, ⟨h1, Nat.zero_le _, h3⟩, fun h => absurd h hn⟩
theorem six_map {ps : List Prt} {pp : Prt} : ps.map encPt ++ [encPt pp, encPt pp, encPt pp, encPt pp, encPt pp, encPt pp] = (ps ++ [pp, pp, pp, pp, pp, pp]).map encPt := by rw [List.map_append]; rfl
set_option maxHeartbeats 8000000 in
theorem item_ok (id ver n : Int) (hi : -100000 ≤ id ∧ id ≤ 100000) (hn : 0 ≤ n ∧ n ≤ 100) : Good Try.prog TT true 24 [.tape, .int .i64 id, .int .i64 ver, .int .i64 n] (fun r => ∃ x, r = itmV x ∧ ItmG n id ver x) := by
  refine good_of mixed tabOk Try.func24 rfl rfl Try.ntmps24 Try.results24 rfl rfl ?_
  (conv => whnf); (repeat' (first | (refine arith_i ⟨by omega, by omega⟩ ?_; conv => whnf) | (refine arith_u ⟨by omega, by omega⟩ ?_; conv => whnf) | (refine arith_8 ⟨by omega, by omega⟩ ?_; conv => whnf) | (refine need_i (by first | omega | (simp only [List.length_cons, List.length_nil]; omega) | (simp only [List.length_append, List.length_cons, List.length_nil, List.length_map, List.length_replicate, List.length_modify]; omega)) ?_; conv => whnf) | ((with_reducible refine branch_tt ?_); conv => whnf) | ((with_reducible refine branch_ff ?_); conv => whnf) | (with_reducible refine branch_not ?_) | (((refine call_i (range_ok _ _ (by omega) (by omega)) fun r hr => ?_; obtain ⟨m1, rfl, -, h6⟩ := hr; have hm1 := h6 (by omega))); conv => whnf) | (((refine call_i (next_ok _ (by omega)) fun r hr => ?_; obtain ⟨m1, rfl, -, h6⟩ := hr; have hm1 := h6 (by omega))); conv => whnf) | (((refine call_i (one_ok _ (by omega)) fun r hr => ?_; obtain ⟨b1, rfl⟩ := hr)); conv => whnf) | (((refine call_i (pick_ok [0, 8, 9, -1] (by decide) (by decide)) fun r hr => ?_; obtain ⟨x, rfl, hx⟩ := hr)); conv => whnf) | (((refine call_i (pick_ok [0, id, -1, 10000, 3] (by simp) (by simp)) fun r hr => ?_; obtain ⟨x, rfl, hx⟩ := hr)); conv => whnf) | (((refine call_i wild_ok fun r hr => ?_; obtain ⟨x, rfl, hx⟩ := hr)); conv => whnf) | (((refine call_i (word_ok _ (by omega)) fun r hr => ?_; obtain ⟨sw, rfl, hsw, hgw⟩ := hr)); conv => whnf) | (((refine call_i (part_ok _ (by omega)) fun r hr => ?_; obtain ⟨p0, rfl, hp0⟩ := hr)); conv => whnf) | (((have h1q : 1 + sw.size ≤ 1000000 := (by omega); refine need_i h1q ?_)); conv => whnf) | ((with_reducible refine slc_e ?_); conv => whnf) | ((with_reducible refine callS_a ?_); conv => whnf) | ((with_reducible refine bld_a ?_); conv => whnf) | ((with_reducible refine own_e ?_); conv => whnf) | ((with_reducible refine mkmap_b ?_); conv => whnf) | (refine draw_i 7 plGL06c_0 (by decide +kernel) ?_; (conv => whnf); fail_if_success (guard_target =~ False)) | (refine draw_i 7 plGL06c_1 (by decide +kernel) ?_; (conv => whnf); fail_if_success (guard_target =~ False)) | (refine draw_i 7 plGL06c_0 (by decide +kernel) ?_; (conv => whnf); fail_if_success (guard_target =~ False)) | (refine draw_i 7 plGL06c_1 (by decide +kernel) ?_; (conv => whnf); fail_if_success (guard_target =~ False)) | (refine draw_i 9 plGL06c_2 (by decide +kernel) ?_; (conv => whnf); fail_if_success (guard_target =~ False)) | (refine draw_i 9 plGL06c_3 (by decide +kernel) ?_; (conv => whnf); fail_if_success (guard_target =~ False)) | (refine draw_i 29 plGL06c_4 (by decide +kernel) ?_; (conv => whnf); fail_if_success (guard_target =~ False)) | ((with_reducible refine And.intro ?_ ?_) <;> (conv => whnf)) | (with_reducible exact trivial) | ((with_reducible refine branch_d (fun hq => ?_) (fun hq => ?_)) <;> (try (exfalso; omega)) <;> (conv => whnf)) | ((with_reducible refine branch_e (fun hq => ?_) (fun hq => ?_)) <;> (try (exfalso; omega)) <;> (conv => whnf)) | ((with_reducible refine branch_n (fun hq => ?_) (fun hq => ?_)) <;> (try (exfalso; omega)) <;> (conv => whnf)) | ((with_reducible refine branch_i (fun hq => ?_) (fun hq => ?_)) <;> (try (exfalso; omega)) <;> (conv => whnf))))
  have hpr : printB ((⟨#[113]⟩ : ByteArray) ++ sw) = true := goodS_print (goodS_app goodS_q hgw)
  have hem : emB ((⟨#[113]⟩ : ByteArray) ++ sw) = false := emB_q
  have hsz : ((⟨#[113]⟩ : ByteArray) ++ sw).size = 1 + sw.size := by rw [ByteArray.size_append]; rfl
  generalize hst : (⟨#[113]⟩ : ByteArray) ++ sw = st at *
  refine loop_i2 (fun (k : Nat) (ps : List Prt) => (k : Int) ≤ m1 ∧ (ps.length : Int) = m1 - k ∧ ∀ p ∈ ps, vPartB p = true) (fun k ps => mkSt [(0, .tape), (1, .int .i64 id), (3, .int .i64 n), (8, .ptr 8 0), (9, .ptr 9 0), (10, .int .i64 k)] [(8, [.int .i64 0, .int .i64 0, .str ⟨#[]⟩, .nil, .nil]), (9, [.int .i64 id, .int .i64 ver, .str st, .own 900 72 6 (ps.map encPt), .nil])] true) (fun k _ => k) m1.toNat [] ⟨by omega, by simp; omega, by simp⟩ (by rw [show ((m1.toNat : Nat) : Int) = m1 by omega, ← hst]; exact Le.trans (le_adoptBox 9 3 900 72 6 rfl rfl) (le_mk (by repeat' (first | exact trivial | rfl | apply And.intro)) (by repeat' (first | exact trivial | rfl | apply And.intro)) rfl)) ?_
  rintro k ps ⟨hk, hps, hpv⟩
  have LP : (ps.map encPt).length = ps.length := List.length_map ..
  (conv => whnf); (repeat' (first | (refine arith_i ⟨by omega, by omega⟩ ?_; conv => whnf) | (refine arith_u ⟨by omega, by omega⟩ ?_; conv => whnf) | (refine arith_8 ⟨by omega, by omega⟩ ?_; conv => whnf) | (refine need_i (by first | omega | (simp only [List.length_cons, List.length_nil]; omega) | (simp only [List.length_append, List.length_cons, List.length_nil, List.length_map, List.length_replicate, List.length_modify]; omega)) ?_; conv => whnf) | ((with_reducible refine branch_tt ?_); conv => whnf) | ((with_reducible refine branch_ff ?_); conv => whnf) | (with_reducible refine branch_not ?_) | (((refine call_i (part_ok _ (by omega)) fun r hr => ?_; obtain ⟨p0, rfl, hp0⟩ := hr)); conv => whnf) | ((with_reducible refine slc_e ?_); conv => whnf) | ((with_reducible refine callS_a ?_); conv => whnf) | ((with_reducible refine bld_a ?_); conv => whnf) | ((with_reducible refine own_e ?_); conv => whnf) | ((with_reducible refine mkmap_b ?_); conv => whnf) | (refine draw_i 7 plGL06c_0 (by decide +kernel) ?_; (conv => whnf); fail_if_success (guard_target =~ False)) | (refine draw_i 7 plGL06c_1 (by decide +kernel) ?_; (conv => whnf); fail_if_success (guard_target =~ False)) | (refine draw_i 7 plGL06c_0 (by decide +kernel) ?_; (conv => whnf); fail_if_success (guard_target =~ False)) | (refine draw_i 7 plGL06c_1 (by decide +kernel) ?_; (conv => whnf); fail_if_success (guard_target =~ False)) | (refine draw_i 9 plGL06c_2 (by decide +kernel) ?_; (conv => whnf); fail_if_success (guard_target =~ False)) | (refine draw_i 9 plGL06c_3 (by decide +kernel) ?_; (conv => whnf); fail_if_success (guard_target =~ False)) | (refine draw_i 29 plGL06c_4 (by decide +kernel) ?_; (conv => whnf); fail_if_success (guard_target =~ False)) | ((with_reducible refine And.intro ?_ ?_) <;> (conv => whnf)) | (with_reducible exact trivial) | ((with_reducible refine branch_d (fun hq => ?_) (fun hq => ?_)) <;> (try (exfalso; omega)) <;> (conv => whnf)) | ((with_reducible refine branch_e (fun hq => ?_) (fun hq => ?_)) <;> (try (exfalso; omega)) <;> (conv => whnf)) | ((with_reducible refine branch_n (fun hq => ?_) (fun hq => ?_)) <;> (try (exfalso; omega)) <;> (conv => whnf)) | ((with_reducible refine branch_i (fun hq => ?_) (fun hq => ?_)) <;> (try (exfalso; omega)) <;> (conv => whnf))))
  · refine ⟨k - 1, ps ++ [p0], ⟨by omega, by simp; omega, fun p hp => ?_⟩, ?_, by omega⟩
    · rcases List.mem_append.1 hp with hp | hp
      · exact hpv p hp
      · rw [List.mem_singleton.1 hp]; exact hp0 rfl
    · rw [show ((k - 1 : Nat) : Int) = (k : Int) - 1 by omega]
      rw [List.map_append]
      exact (le_mk (by repeat' (first | exact trivial | rfl | apply And.intro)) (by repeat' (first | exact trivial | rfl | apply And.intro)) rfl)
  have hpl : 1 ≤ ps.length ∧ ps.length ≤ 3 := by omega
  clear hst hgw
  refine loop_i2 (fun (j : Nat) (fs : List Int) => j ≤ 6 ∧ fs.length ≤ j ∧ FoeG id j fs) (fun j fs => mkSt [(0, .tape), (1, .int .i64 id), (3, .int .i64 n), (8, .ptr 8 0), (9, .ptr 9 0), (11, .int .i64 j)] [(8, [.int .i64 0, .int .i64 0, .str ⟨#[]⟩, .nil, .nil]), (9, [.int .i64 id, .int .i64 ver, .str st, .own 900 72 6 (ps.map encPt), .own 901 3 1 (fs.map encI)])] true) (fun j _ => 6 - j) 0 [] ⟨by omega, by simp, FoeG.nil⟩ (Le.trans (le_adoptBox 9 4 901 3 1 rfl rfl) (le_mk (by repeat' (first | exact trivial | rfl | apply And.intro)) (by repeat' (first | exact trivial | rfl | apply And.intro)) rfl)) ?_
  rintro j fs ⟨hj, hfs, hfg⟩
  have LF : (fs.map encI).length = fs.length := List.length_map ..
  obtain ⟨pp, hpp⟩ : ∃ pp, ps[0]? = some pp := ⟨ps[0], List.getElem?_eq_getElem (by omega)⟩
  (conv => whnf); (repeat' (first | (refine arith_i ⟨by omega, by omega⟩ ?_; conv => whnf) | (refine arith_u ⟨by omega, by omega⟩ ?_; conv => whnf) | (refine arith_8 ⟨by omega, by omega⟩ ?_; conv => whnf) | (refine need_i (by first | omega | (simp only [List.length_cons, List.length_nil]; omega) | (simp only [List.length_append, List.length_cons, List.length_nil, List.length_map, List.length_replicate, List.length_modify]; omega)) ?_; conv => whnf) | ((with_reducible refine branch_tt ?_); conv => whnf) | ((with_reducible refine branch_ff ?_); conv => whnf) | (with_reducible refine branch_not ?_) | (((refine call_i (range_ok _ _ (by omega) (by omega)) fun r hr => ?_; obtain ⟨m1, rfl, -, h6⟩ := hr; have hm1 := h6 (by omega))); conv => whnf) | (((refine call_i (next_ok _ (by omega)) fun r hr => ?_; obtain ⟨m1, rfl, -, h6⟩ := hr; have hm1 := h6 (by omega))); conv => whnf) | (((refine call_i (one_ok _ (by omega)) fun r hr => ?_; obtain ⟨b1, rfl⟩ := hr)); conv => whnf) | (((refine call_i (pick_ok [0, 8, 9, -1] (by decide) (by decide)) fun r hr => ?_; obtain ⟨x, rfl, hx⟩ := hr)); conv => whnf) | (((refine call_i (pick_ok [0, id, -1, 10000, 3] (by simp) (by simp)) fun r hr => ?_; obtain ⟨x, rfl, hx⟩ := hr)); conv => whnf) | (((refine call_i wild_ok fun r hr => ?_; obtain ⟨x, rfl, hx⟩ := hr)); conv => whnf) | (((refine call_i (word_ok _ (by omega)) fun r hr => ?_; obtain ⟨sw, rfl, hsw, hgw⟩ := hr)); conv => whnf) | (((refine call_i (part_ok _ (by omega)) fun r hr => ?_; obtain ⟨p0, rfl, hp0⟩ := hr)); conv => whnf) | (((have h1q : 1 + sw.size ≤ 1000000 := (by omega); refine need_i h1q ?_)); conv => whnf) | ((refine draw_i 28 (.take 0 (.take 1 (.take 2 (.take 3 (.take 4 (.take 6 (.take 7 (.take 8 (.take 10 (.take 11 (.take 12 (.take 14 (.take 15 (.take 16 (.take 18 (.take 19 (.take 20 (.take 22 (.take 23 (.take 24 (.takeQ 5 (.takeQ 9 (.takeQ 13 (.takeQ 17 (.takeQ 21 (.takeQ 25 (.alt 26 (.alt 27 (.take 28 (.alt 29 .done .stop)) .stop) .stop))))))))))))))))))))))))))) (by decide +kernel) ?_); conv => whnf) | ((refine idx_ms (x := pp) (by omega) hpp ?_); conv => whnf) | ((refine idx3 (by omega) (by omega) ?_ ?_ ?_); conv => whnf) | ((with_reducible refine slc_e ?_); conv => whnf) | ((with_reducible refine callS_a ?_); conv => whnf) | ((with_reducible refine bld_a ?_); conv => whnf) | ((with_reducible refine own_e ?_); conv => whnf) | ((with_reducible refine mkmap_b ?_); conv => whnf) | (refine draw_i 7 plGL06c_0 (by decide +kernel) ?_; (conv => whnf); fail_if_success (guard_target =~ False)) | (refine draw_i 7 plGL06c_1 (by decide +kernel) ?_; (conv => whnf); fail_if_success (guard_target =~ False)) | (refine draw_i 7 plGL06c_0 (by decide +kernel) ?_; (conv => whnf); fail_if_success (guard_target =~ False)) | (refine draw_i 7 plGL06c_1 (by decide +kernel) ?_; (conv => whnf); fail_if_success (guard_target =~ False)) | (refine draw_i 9 plGL06c_2 (by decide +kernel) ?_; (conv => whnf); fail_if_success (guard_target =~ False)) | (refine draw_i 9 plGL06c_3 (by decide +kernel) ?_; (conv => whnf); fail_if_success (guard_target =~ False)) | (refine draw_i 29 plGL06c_4 (by decide +kernel) ?_; (conv => whnf); fail_if_success (guard_target =~ False)) | ((with_reducible refine And.intro ?_ ?_) <;> (conv => whnf)) | (with_reducible exact trivial) | ((with_reducible refine branch_d (fun hq => ?_) (fun hq => ?_)) <;> (try (exfalso; omega)) <;> (conv => whnf)) | ((with_reducible refine branch_e (fun hq => ?_) (fun hq => ?_)) <;> (try (exfalso; omega)) <;> (conv => whnf)) | ((with_reducible refine branch_n (fun hq => ?_) (fun hq => ?_)) <;> (try (exfalso; omega)) <;> (conv => whnf)) | ((with_reducible refine branch_i (fun hq => ?_) (fun hq => ?_)) <;> (try (exfalso; omega)) <;> (conv => whnf))))
  all_goals first
    | ((refine ⟨j + 1, fs, ⟨by omega, by omega, hfg.skip⟩, le_mk ?_ ?_ rfl, by omega⟩ <;> (repeat' (first | exact trivial | rfl | apply And.intro))); done)
    | (refine ⟨j + 1, fs ++ [(j : Int)], ⟨by omega, by simp; omega, hfg.snoc (by omega)⟩, ?_, by omega⟩
       rw [← snocI6]
       exact (le_mk (by repeat' (first | exact trivial | rfl | apply And.intro)) (by repeat' (first | exact trivial | rfl | apply And.intro)) rfl))
    | exact item_ret (ps := ps) (fs := fs) rfl rfl (by first | omega | decide) (by omega) (by omega) (fun h0 h1 h2 => ⟨item_zero h1 h2 (by show st.size ≤ 40; omega) hem hpr ⟨hpl.1, by show ps.length ≤ 6; omega⟩ hpv (by show fs.length ≤ 8; omega) (hfg.foes (by omega)), rfl, rfl⟩)
    | exact item_ret (ps := ps) (fs := fs) rfl rfl (by first | omega | decide) (by omega) (by omega) (fun h0 => by exfalso; omega)
    | exact item_retn (fs := fs) rfl (by first | omega | decide) (by omega) (by omega)
    | exact item_ret (ps := ps ++ [p0]) (fs := fs) (by rw [List.map_append]; rfl) rfl (by first | omega | decide) (by simp; omega) (by omega) (fun h0 => by exfalso; omega)
    | exact item_ret (ps := ps) (fs := fs ++ [x]) rfl (by rw [List.map_append]; rfl) (by first | omega | decide) (by omega) (by simp; omega) (fun h0 => by exfalso; omega)
    | exact item_ret (ps := ps ++ [pp, pp, pp, pp, pp, pp]) (fs := fs) six_map rfl (by first | omega | decide) (by simp; omega) (by omega) (fun h0 => by exfalso; omega)
    | trace_state
end Go.Proofs.Ytiionjpinainlaa
end

/- Layer 6: the generator of lists of items. -/
section
namespace Go.Proofs.Ytiionjpinainlaa
set_option linter.unusedVariables false
set_option linter.unusedSimpArgs false
set_option linter.unnecessarySimpa false
set_option linter.unusedSectionVars false
set_option maxRecDepth 10000
open Go.RowKit
set_option maxHeartbeats 4000000 in
theorem items_ok (n : Int) (hn : 0 ≤ n ∧ n ≤ 100) : Good Try.prog TT true 23 [.tape, .int .i64 n] (fun r => ∃ l : List Itm, r = .own 0 56 5 (l.map encX) ∧ (l.length : Int) ≤ n ∧ ∀ x ∈ l, ItmS x ∧ itemF x = 0) := by
  refine good_of mixed tabOk Try.func23 rfl rfl Try.ntmps23 Try.results23 rfl rfl ?_
  (conv => whnf); (repeat' (first | (refine arith_i ⟨by omega, by omega⟩ ?_; conv => whnf) | (refine arith_u ⟨by omega, by omega⟩ ?_; conv => whnf) | (refine arith_8 ⟨by omega, by omega⟩ ?_; conv => whnf) | (refine need_i (by first | omega | (simp only [List.length_cons, List.length_nil]; omega) | (simp only [List.length_append, List.length_cons, List.length_nil, List.length_map, List.length_replicate, List.length_modify]; omega)) ?_; conv => whnf) | ((with_reducible refine branch_tt ?_); conv => whnf) | ((with_reducible refine branch_ff ?_); conv => whnf) | (with_reducible refine branch_not ?_) | (((refine call_i (range_ok _ _ (by omega) (by omega)) fun r hr => ?_; obtain ⟨m1, rfl, -, h6⟩ := hr; have hm1 := h6 (by omega))); conv => whnf) | ((with_reducible refine slc_e ?_); conv => whnf) | ((with_reducible refine callS_a ?_); conv => whnf) | ((with_reducible refine bld_a ?_); conv => whnf) | ((with_reducible refine own_e ?_); conv => whnf) | ((with_reducible refine mkmap_b ?_); conv => whnf) | ((with_reducible refine branch_d (fun hq => ?_) (fun hq => ?_)) <;> (try (exfalso; omega)) <;> (conv => whnf)) | ((with_reducible refine branch_e (fun hq => ?_) (fun hq => ?_)) <;> (try (exfalso; omega)) <;> (conv => whnf)) | ((with_reducible refine branch_n (fun hq => ?_) (fun hq => ?_)) <;> (try (exfalso; omega)) <;> (conv => whnf)) | ((with_reducible refine branch_i (fun hq => ?_) (fun hq => ?_)) <;> (try (exfalso; omega)) <;> (conv => whnf))))
  refine loop_i2 (fun (k : Nat) (l : List Itm) => (k : Int) ≤ m1 ∧ (l.length : Int) = m1 - k ∧ ∀ x ∈ l, ItmS x ∧ itemF x = 0) (fun k l => mkSt [(0, .tape), (5, .own 900 56 5 (l.map encX)), (6, .int .i64 k)] [] true) (fun k _ => k) m1.toNat [] ⟨by omega, by simp; omega, by simp⟩ (by rw [show ((m1.toNat : Nat) : Int) = m1 by omega]; exact Le.trans (le_adopt 5 900 56 5 rfl) (le_mk (by repeat' (first | exact trivial | rfl | apply And.intro)) (by repeat' (first | exact trivial | rfl | apply And.intro)) rfl)) ?_
  rintro k l ⟨hk, hl, hx⟩
  have LL : (l.map encX).length = l.length := List.length_map ..
  (conv => whnf); (repeat' (first | (refine arith_i ⟨by omega, by omega⟩ ?_; conv => whnf) | (refine arith_u ⟨by omega, by omega⟩ ?_; conv => whnf) | (refine arith_8 ⟨by omega, by omega⟩ ?_; conv => whnf) | (refine need_i (by first | omega | (simp only [List.length_cons, List.length_nil]; omega) | (simp only [List.length_append, List.length_cons, List.length_nil, List.length_map, List.length_replicate, List.length_modify]; omega)) ?_; conv => whnf) | ((with_reducible refine branch_tt ?_); conv => whnf) | ((with_reducible refine branch_ff ?_); conv => whnf) | (with_reducible refine branch_not ?_) | (((refine call_i (range_ok _ _ (by omega) (by omega)) fun r hr => ?_; obtain ⟨m2, rfl, -, h7⟩ := hr; have hm2 := h7 (by omega))); conv => whnf) | (((refine call_i (next_ok _ (by omega)) fun r hr => ?_; obtain ⟨m3, rfl, -, h8⟩ := hr; have hm3 := h8 (by omega))); conv => whnf) | (((refine call_i (one_ok _ (by omega)) fun r hr => ?_; obtain ⟨b1, rfl⟩ := hr)); conv => whnf) | (((refine call_i (item_ok _ _ 0 (by omega) (by omega)) fun r hr => ?_; obtain ⟨x, rfl, hxg⟩ := hr; have hx0 := hxg.ok rfl (by omega) (by omega))); conv => whnf) | ((with_reducible refine slc_e ?_); conv => whnf) | ((with_reducible refine callS_a ?_); conv => whnf) | ((with_reducible refine bld_a ?_); conv => whnf) | ((with_reducible refine own_e ?_); conv => whnf) | ((with_reducible refine mkmap_b ?_); conv => whnf) | ((with_reducible refine branch_d (fun hq => ?_) (fun hq => ?_)) <;> (try (exfalso; omega)) <;> (conv => whnf)) | ((with_reducible refine branch_e (fun hq => ?_) (fun hq => ?_)) <;> (try (exfalso; omega)) <;> (conv => whnf)) | ((with_reducible refine branch_n (fun hq => ?_) (fun hq => ?_)) <;> (try (exfalso; omega)) <;> (conv => whnf)) | ((with_reducible refine branch_i (fun hq => ?_) (fun hq => ?_)) <;> (try (exfalso; omega)) <;> (conv => whnf))))
  all_goals first
    | (refine ⟨k - 1, l ++ [x], ⟨by omega, by simp; omega, fun y hy => ?_⟩, ?_, by omega⟩
       · rcases List.mem_append.1 hy with hy | hy
         · exact hx y hy
         · rw [List.mem_singleton.1 hy]; exact ⟨hxg.small, hx0.1⟩
       · rw [show ((k - 1 : Nat) : Int) = (k : Int) - 1 by omega, List.map_append]
         exact (le_mk (by repeat' (first | exact trivial | rfl | apply And.intro)) (by repeat' (first | exact trivial | rfl | apply And.intro)) rfl))
    | exact ret_o ⟨l, rfl, by omega, hx⟩
    | trace_state
end Go.Proofs.Ytiionjpinainlaa
end

/- Layer 9 by the interpreter: states, nodes, rounding up. -/
section
namespace Go.Proofs.Ytiionjpinainlaa
set_option linter.unusedVariables false
set_option linter.unusedSimpArgs false
set_option linter.unnecessarySimpa false
set_option linter.unusedSectionVars false
set_option maxRecDepth 10000
open Go.RowKit

structure Nd where
  kind : Int
  var : Int
  zero : Int
  one : Int
  row : Int
  num : Int
  den : Int
def encN (n : Nd) : List AV := [.int .i64 n.kind, .int .i64 n.var, .int .i64 n.zero, .int .i64 n.one, .int .i64 n.row, .int .i64 n.num, .int .i64 n.den]
def ndsV (l : List Nd) : AV := .lst 7 (l.map encN)
def tri9 (x : Int) : Bool := decide (-1 ≤ x) && decide (x ≤ 1)
def stOB (st : List Int) (n : Int) : Bool := decide ((st.length : Int) = n) && st.all tri9
theorem stO_bad {st : List Int} {n : Int} {k : Nat} {x : Int} (h : st[k]? = some x) (hb : tri9 x = false) : stOB st n = false := by
  unfold stOB
  rw [Bool.and_eq_false_iff]; right
  rw [List.all_eq_false]
  exact ⟨x, List.mem_of_getElem? h, by simp [hb]⟩
theorem stO_good {st : List Int} {n : Int} (hn : (st.length : Int) = n) {k : Nat} (hk : st.length ≤ k) (h : ∀ (i : Nat) (x : Int), i < k → st[i]? = some x → tri9 x = true) : stOB st n = true := by
  unfold stOB
  rw [Bool.and_eq_true]
  refine ⟨by simp [hn], ?_⟩
  rw [List.all_eq_true]
  intro x hx
  obtain ⟨i, hi, e⟩ := List.mem_iff_getElem.1 hx
  exact h i x (by omega) (by rw [← e]; exact List.getElem?_eq_getElem hi)
theorem oState_ok (st : List Int) (n : Int) (hl : st.length ≤ 1000000) : Good Try.prog TT false 88 [ints st, .int .i64 n] (· = .bool (stOB st n)) := by
  have L : (st.map encI).length = st.length := List.length_map ..
  refine good_of mixed tabOk Try.func88 rfl rfl Try.ntmps88 Try.results88 rfl rfl ?_
  (conv => whnf); (repeat (first | (refine arith_i ⟨by omega, by omega⟩ ?_; conv => whnf) | (refine need_i (by first | omega | (simp only [List.length_append, List.length_cons, List.length_nil]; omega)) ?_; conv => whnf) | ((with_reducible refine branch_tt ?_); conv => whnf) | ((with_reducible refine branch_ff ?_); conv => whnf) | (with_reducible refine branch_not ?_) | ((with_reducible refine slc_e ?_); conv => whnf) | ((with_reducible refine callS_a ?_); conv => whnf) | ((with_reducible refine bld_a ?_); conv => whnf) | ((with_reducible refine own_e ?_); conv => whnf) | ((with_reducible refine mkmap_b ?_); conv => whnf)))
  refine branch_n (fun h => ?_) (fun h => ?_)
  · (conv => whnf); (repeat (first | (refine arith_i ⟨by omega, by omega⟩ ?_; conv => whnf) | (refine need_i (by first | omega | (simp only [List.length_append, List.length_cons, List.length_nil]; omega)) ?_; conv => whnf) | ((with_reducible refine branch_tt ?_); conv => whnf) | ((with_reducible refine branch_ff ?_); conv => whnf) | (with_reducible refine branch_not ?_) | ((with_reducible refine slc_e ?_); conv => whnf) | ((with_reducible refine callS_a ?_); conv => whnf) | ((with_reducible refine bld_a ?_); conv => whnf) | ((with_reducible refine own_e ?_); conv => whnf) | ((with_reducible refine mkmap_b ?_); conv => whnf)))
    exact ret_p rfl (bool_eq (by simp [stOB]; omega))
  · (conv => whnf); (repeat (first | (refine arith_i ⟨by omega, by omega⟩ ?_; conv => whnf) | (refine need_i (by first | omega | (simp only [List.length_append, List.length_cons, List.length_nil]; omega)) ?_; conv => whnf) | ((with_reducible refine branch_tt ?_); conv => whnf) | ((with_reducible refine branch_ff ?_); conv => whnf) | (with_reducible refine branch_not ?_) | ((with_reducible refine slc_e ?_); conv => whnf) | ((with_reducible refine callS_a ?_); conv => whnf) | ((with_reducible refine bld_a ?_); conv => whnf) | ((with_reducible refine own_e ?_); conv => whnf) | ((with_reducible refine mkmap_b ?_); conv => whnf)))
    refine loop_i (fun k : Nat => k ≤ st.length ∧ ∀ (i : Nat) (x : Int), i < k → st[i]? = some x → tri9 x = true) (fun k => mkSt [(11, ints st), (12, .int .i64 (st.map encI).length), (13, .int .i64 k)] [] false) (fun k => st.length - k) 0 ⟨Nat.zero_le _, nofun⟩ (le_mk ⟨rfl, rfl, rfl, trivial⟩ trivial rfl) ?_
    rintro k ⟨hk, hall⟩
    (conv => whnf); (repeat (first | (refine arith_i ⟨by omega, by omega⟩ ?_; conv => whnf) | (refine need_i (by first | omega | (simp only [List.length_append, List.length_cons, List.length_nil]; omega)) ?_; conv => whnf) | ((with_reducible refine branch_tt ?_); conv => whnf) | ((with_reducible refine branch_ff ?_); conv => whnf) | (with_reducible refine branch_not ?_) | ((with_reducible refine slc_e ?_); conv => whnf) | ((with_reducible refine callS_a ?_); conv => whnf) | ((with_reducible refine bld_a ?_); conv => whnf) | ((with_reducible refine own_e ?_); conv => whnf) | ((with_reducible refine mkmap_b ?_); conv => whnf)))
    refine branch_d (fun h1 => ?_) (fun h1 => ?_)
    · (conv => whnf); (repeat (first | (refine arith_i ⟨by omega, by omega⟩ ?_; conv => whnf) | (refine need_i (by first | omega | (simp only [List.length_append, List.length_cons, List.length_nil]; omega)) ?_; conv => whnf) | ((with_reducible refine branch_tt ?_); conv => whnf) | ((with_reducible refine branch_ff ?_); conv => whnf) | (with_reducible refine branch_not ?_) | ((with_reducible refine slc_e ?_); conv => whnf) | ((with_reducible refine callS_a ?_); conv => whnf) | ((with_reducible refine bld_a ?_); conv => whnf) | ((with_reducible refine own_e ?_); conv => whnf) | ((with_reducible refine mkmap_b ?_); conv => whnf)))
      refine idx_m (by omega) (by omega) fun x hx => ?_
      rw [Int.toNat_natCast] at hx
      (conv => whnf); (repeat (first | (refine arith_i ⟨by omega, by omega⟩ ?_; conv => whnf) | (refine need_i (by first | omega | (simp only [List.length_append, List.length_cons, List.length_nil]; omega)) ?_; conv => whnf) | ((with_reducible refine branch_tt ?_); conv => whnf) | ((with_reducible refine branch_ff ?_); conv => whnf) | (with_reducible refine branch_not ?_) | ((with_reducible refine slc_e ?_); conv => whnf) | ((with_reducible refine callS_a ?_); conv => whnf) | ((with_reducible refine bld_a ?_); conv => whnf) | ((with_reducible refine own_e ?_); conv => whnf) | ((with_reducible refine mkmap_b ?_); conv => whnf)))
      refine branch_d (fun h2 => ?_) (fun h2 => ?_)
      · (conv => whnf); (repeat (first | (refine arith_i ⟨by omega, by omega⟩ ?_; conv => whnf) | (refine need_i (by first | omega | (simp only [List.length_append, List.length_cons, List.length_nil]; omega)) ?_; conv => whnf) | ((with_reducible refine branch_tt ?_); conv => whnf) | ((with_reducible refine branch_ff ?_); conv => whnf) | (with_reducible refine branch_not ?_) | ((with_reducible refine slc_e ?_); conv => whnf) | ((with_reducible refine callS_a ?_); conv => whnf) | ((with_reducible refine bld_a ?_); conv => whnf) | ((with_reducible refine own_e ?_); conv => whnf) | ((with_reducible refine mkmap_b ?_); conv => whnf)))
        exact ret_p rfl (bool_eq (stO_bad hx (by simp [tri9]; omega)).symm)
      · (conv => whnf); (repeat (first | (refine arith_i ⟨by omega, by omega⟩ ?_; conv => whnf) | (refine need_i (by first | omega | (simp only [List.length_append, List.length_cons, List.length_nil]; omega)) ?_; conv => whnf) | ((with_reducible refine branch_tt ?_); conv => whnf) | ((with_reducible refine branch_ff ?_); conv => whnf) | (with_reducible refine branch_not ?_) | ((with_reducible refine slc_e ?_); conv => whnf) | ((with_reducible refine callS_a ?_); conv => whnf) | ((with_reducible refine bld_a ?_); conv => whnf) | ((with_reducible refine own_e ?_); conv => whnf) | ((with_reducible refine mkmap_b ?_); conv => whnf)))
        refine branch_d (fun h3 => ?_) (fun h3 => ?_)
        · (conv => whnf); (repeat (first | (refine arith_i ⟨by omega, by omega⟩ ?_; conv => whnf) | (refine need_i (by first | omega | (simp only [List.length_append, List.length_cons, List.length_nil]; omega)) ?_; conv => whnf) | ((with_reducible refine branch_tt ?_); conv => whnf) | ((with_reducible refine branch_ff ?_); conv => whnf) | (with_reducible refine branch_not ?_) | ((with_reducible refine slc_e ?_); conv => whnf) | ((with_reducible refine callS_a ?_); conv => whnf) | ((with_reducible refine bld_a ?_); conv => whnf) | ((with_reducible refine own_e ?_); conv => whnf) | ((with_reducible refine mkmap_b ?_); conv => whnf)))
          exact ret_p rfl (bool_eq (stO_bad hx (by simp [tri9]; omega)).symm)
        · (conv => whnf); (repeat (first | (refine arith_i ⟨by omega, by omega⟩ ?_; conv => whnf) | (refine need_i (by first | omega | (simp only [List.length_append, List.length_cons, List.length_nil]; omega)) ?_; conv => whnf) | ((with_reducible refine branch_tt ?_); conv => whnf) | ((with_reducible refine branch_ff ?_); conv => whnf) | (with_reducible refine branch_not ?_) | ((with_reducible refine slc_e ?_); conv => whnf) | ((with_reducible refine callS_a ?_); conv => whnf) | ((with_reducible refine bld_a ?_); conv => whnf) | ((with_reducible refine own_e ?_); conv => whnf) | ((with_reducible refine mkmap_b ?_); conv => whnf)))
          refine ⟨k + 1, ⟨by omega, fun i y hi hy => ?_⟩, le_mk ⟨rfl, rfl, rfl, trivial⟩ trivial rfl, by omega⟩
          rcases Nat.lt_or_ge i k with h' | h'
          · exact hall i y h' hy
          · obtain rfl : i = k := by omega
            rw [hx] at hy; injection hy with hy; subst hy
            simp [tri9]; omega
    · (conv => whnf); (repeat (first | (refine arith_i ⟨by omega, by omega⟩ ?_; conv => whnf) | (refine need_i (by first | omega | (simp only [List.length_append, List.length_cons, List.length_nil]; omega)) ?_; conv => whnf) | ((with_reducible refine branch_tt ?_); conv => whnf) | ((with_reducible refine branch_ff ?_); conv => whnf) | (with_reducible refine branch_not ?_) | ((with_reducible refine slc_e ?_); conv => whnf) | ((with_reducible refine callS_a ?_); conv => whnf) | ((with_reducible refine bld_a ?_); conv => whnf) | ((with_reducible refine own_e ?_); conv => whnf) | ((with_reducible refine mkmap_b ?_); conv => whnf)))
      exact ret_p rfl (bool_eq (stO_good (by omega) (by omega) hall).symm)
def bndB (rows : Nat) (n : Nd) : Bool := decide (n.kind = 3) && (if n.row = -1 then decide (n.num = 0) && decide (n.den = 1) else decide (0 ≤ n.row) && decide (n.row < rows) && decide (-10000 ≤ n.num) && decide (n.num ≤ 10000) && decide (1 ≤ n.den) && decide (n.den ≤ 10000))
theorem oBound_ok (P : Prog) (n : Nd) : Good Try.prog TT false 89 [progV P, .agg (encN n)] (· = .bool (bndB P.rows.length n)) := by
  have L : (P.rows.map encRow).length = P.rows.length := List.length_map ..
  refine good_of mixed tabOk Try.func89 rfl rfl Try.ntmps89 Try.results89 rfl rfl ?_
  (conv => whnf); (repeat (first | (refine arith_i ⟨by omega, by omega⟩ ?_; conv => whnf) | (refine need_i (by first | omega | (simp only [List.length_append, List.length_cons, List.length_nil]; omega)) ?_; conv => whnf) | ((with_reducible refine branch_tt ?_); conv => whnf) | ((with_reducible refine branch_ff ?_); conv => whnf) | (with_reducible refine branch_not ?_) | ((with_reducible refine slc_e ?_); conv => whnf) | ((with_reducible refine callS_a ?_); conv => whnf) | ((with_reducible refine bld_a ?_); conv => whnf) | ((with_reducible refine own_e ?_); conv => whnf) | ((with_reducible refine mkmap_b ?_); conv => whnf)))
  refine branch_n (fun h => ?_) (fun h => ?_)
  · (conv => whnf); (repeat (first | (refine arith_i ⟨by omega, by omega⟩ ?_; conv => whnf) | (refine need_i (by first | omega | (simp only [List.length_append, List.length_cons, List.length_nil]; omega)) ?_; conv => whnf) | ((with_reducible refine branch_tt ?_); conv => whnf) | ((with_reducible refine branch_ff ?_); conv => whnf) | (with_reducible refine branch_not ?_) | ((with_reducible refine slc_e ?_); conv => whnf) | ((with_reducible refine callS_a ?_); conv => whnf) | ((with_reducible refine bld_a ?_); conv => whnf) | ((with_reducible refine own_e ?_); conv => whnf) | ((with_reducible refine mkmap_b ?_); conv => whnf)))
    exact ret_p rfl (bool_eq (by simp [bndB, h]))
  (conv => whnf); (repeat (first | (refine arith_i ⟨by omega, by omega⟩ ?_; conv => whnf) | (refine need_i (by first | omega | (simp only [List.length_append, List.length_cons, List.length_nil]; omega)) ?_; conv => whnf) | ((with_reducible refine branch_tt ?_); conv => whnf) | ((with_reducible refine branch_ff ?_); conv => whnf) | (with_reducible refine branch_not ?_) | ((with_reducible refine slc_e ?_); conv => whnf) | ((with_reducible refine callS_a ?_); conv => whnf) | ((with_reducible refine bld_a ?_); conv => whnf) | ((with_reducible refine own_e ?_); conv => whnf) | ((with_reducible refine mkmap_b ?_); conv => whnf)))
  refine branch_e (fun h1 => ?_) (fun h1 => ?_)
  · (conv => whnf); (repeat (first | (refine arith_i ⟨by omega, by omega⟩ ?_; conv => whnf) | (refine need_i (by first | omega | (simp only [List.length_append, List.length_cons, List.length_nil]; omega)) ?_; conv => whnf) | ((with_reducible refine branch_tt ?_); conv => whnf) | ((with_reducible refine branch_ff ?_); conv => whnf) | (with_reducible refine branch_not ?_) | ((with_reducible refine slc_e ?_); conv => whnf) | ((with_reducible refine callS_a ?_); conv => whnf) | ((with_reducible refine bld_a ?_); conv => whnf) | ((with_reducible refine own_e ?_); conv => whnf) | ((with_reducible refine mkmap_b ?_); conv => whnf)))
    refine branch_e (fun h2 => ?_) (fun h2 => ?_)
    · (conv => whnf); (repeat (first | (refine arith_i ⟨by omega, by omega⟩ ?_; conv => whnf) | (refine need_i (by first | omega | (simp only [List.length_append, List.length_cons, List.length_nil]; omega)) ?_; conv => whnf) | ((with_reducible refine branch_tt ?_); conv => whnf) | ((with_reducible refine branch_ff ?_); conv => whnf) | (with_reducible refine branch_not ?_) | ((with_reducible refine slc_e ?_); conv => whnf) | ((with_reducible refine callS_a ?_); conv => whnf) | ((with_reducible refine bld_a ?_); conv => whnf) | ((with_reducible refine own_e ?_); conv => whnf) | ((with_reducible refine mkmap_b ?_); conv => whnf)))
      exact ret_p rfl (bool_eq (by simp only [bndB, h, h1, h2, if_pos, decide_true, Bool.true_and]; rw [Bool.eq_iff_iff]; simp))
    · (conv => whnf); (repeat (first | (refine arith_i ⟨by omega, by omega⟩ ?_; conv => whnf) | (refine need_i (by first | omega | (simp only [List.length_append, List.length_cons, List.length_nil]; omega)) ?_; conv => whnf) | ((with_reducible refine branch_tt ?_); conv => whnf) | ((with_reducible refine branch_ff ?_); conv => whnf) | (with_reducible refine branch_not ?_) | ((with_reducible refine slc_e ?_); conv => whnf) | ((with_reducible refine callS_a ?_); conv => whnf) | ((with_reducible refine bld_a ?_); conv => whnf) | ((with_reducible refine own_e ?_); conv => whnf) | ((with_reducible refine mkmap_b ?_); conv => whnf)))
      exact ret_p rfl (bool_eq (by simp [bndB, h, h1, h2]))
  · have no : (decide (0 ≤ n.row) && decide (n.row < P.rows.length) && decide (-10000 ≤ n.num) && decide (n.num ≤ 10000) && decide (1 ≤ n.den) && decide (n.den ≤ 10000)) = false → AV.bool false = .bool (bndB P.rows.length n) := fun hb => bool_eq (by rw [bndB, if_neg h1, hb, Bool.and_false])
    (conv => whnf); (repeat (first | (refine arith_i ⟨by omega, by omega⟩ ?_; conv => whnf) | (refine need_i (by first | omega | (simp only [List.length_append, List.length_cons, List.length_nil]; omega)) ?_; conv => whnf) | ((with_reducible refine branch_tt ?_); conv => whnf) | ((with_reducible refine branch_ff ?_); conv => whnf) | (with_reducible refine branch_not ?_) | ((with_reducible refine slc_e ?_); conv => whnf) | ((with_reducible refine callS_a ?_); conv => whnf) | ((with_reducible refine bld_a ?_); conv => whnf) | ((with_reducible refine own_e ?_); conv => whnf) | ((with_reducible refine mkmap_b ?_); conv => whnf)))
    refine branch_d (fun c1 => ?_) (fun c1 => ?_)
    · (conv => whnf); (repeat (first | (refine arith_i ⟨by omega, by omega⟩ ?_; conv => whnf) | (refine need_i (by first | omega | (simp only [List.length_append, List.length_cons, List.length_nil]; omega)) ?_; conv => whnf) | ((with_reducible refine branch_tt ?_); conv => whnf) | ((with_reducible refine branch_ff ?_); conv => whnf) | (with_reducible refine branch_not ?_) | ((with_reducible refine slc_e ?_); conv => whnf) | ((with_reducible refine callS_a ?_); conv => whnf) | ((with_reducible refine bld_a ?_); conv => whnf) | ((with_reducible refine own_e ?_); conv => whnf) | ((with_reducible refine mkmap_b ?_); conv => whnf)))
      refine branch_d (fun c2 => ?_) (fun c2 => ?_)
      · (conv => whnf); (repeat (first | (refine arith_i ⟨by omega, by omega⟩ ?_; conv => whnf) | (refine need_i (by first | omega | (simp only [List.length_append, List.length_cons, List.length_nil]; omega)) ?_; conv => whnf) | ((with_reducible refine branch_tt ?_); conv => whnf) | ((with_reducible refine branch_ff ?_); conv => whnf) | (with_reducible refine branch_not ?_) | ((with_reducible refine slc_e ?_); conv => whnf) | ((with_reducible refine callS_a ?_); conv => whnf) | ((with_reducible refine bld_a ?_); conv => whnf) | ((with_reducible refine own_e ?_); conv => whnf) | ((with_reducible refine mkmap_b ?_); conv => whnf)))
        refine branch_d (fun c3 => ?_) (fun c3 => ?_)
        · (conv => whnf); (repeat (first | (refine arith_i ⟨by omega, by omega⟩ ?_; conv => whnf) | (refine need_i (by first | omega | (simp only [List.length_append, List.length_cons, List.length_nil]; omega)) ?_; conv => whnf) | ((with_reducible refine branch_tt ?_); conv => whnf) | ((with_reducible refine branch_ff ?_); conv => whnf) | (with_reducible refine branch_not ?_) | ((with_reducible refine slc_e ?_); conv => whnf) | ((with_reducible refine callS_a ?_); conv => whnf) | ((with_reducible refine bld_a ?_); conv => whnf) | ((with_reducible refine own_e ?_); conv => whnf) | ((with_reducible refine mkmap_b ?_); conv => whnf)))
          refine branch_d (fun c4 => ?_) (fun c4 => ?_)
          · (conv => whnf); (repeat (first | (refine arith_i ⟨by omega, by omega⟩ ?_; conv => whnf) | (refine need_i (by first | omega | (simp only [List.length_append, List.length_cons, List.length_nil]; omega)) ?_; conv => whnf) | ((with_reducible refine branch_tt ?_); conv => whnf) | ((with_reducible refine branch_ff ?_); conv => whnf) | (with_reducible refine branch_not ?_) | ((with_reducible refine slc_e ?_); conv => whnf) | ((with_reducible refine callS_a ?_); conv => whnf) | ((with_reducible refine bld_a ?_); conv => whnf) | ((with_reducible refine own_e ?_); conv => whnf) | ((with_reducible refine mkmap_b ?_); conv => whnf)))
            refine branch_d (fun c5 => ?_) (fun c5 => ?_)
            · (conv => whnf); (repeat (first | (refine arith_i ⟨by omega, by omega⟩ ?_; conv => whnf) | (refine need_i (by first | omega | (simp only [List.length_append, List.length_cons, List.length_nil]; omega)) ?_; conv => whnf) | ((with_reducible refine branch_tt ?_); conv => whnf) | ((with_reducible refine branch_ff ?_); conv => whnf) | (with_reducible refine branch_not ?_) | ((with_reducible refine slc_e ?_); conv => whnf) | ((with_reducible refine callS_a ?_); conv => whnf) | ((with_reducible refine bld_a ?_); conv => whnf) | ((with_reducible refine own_e ?_); conv => whnf) | ((with_reducible refine mkmap_b ?_); conv => whnf)))
              have c2' : n.row < P.rows.length := by omega
              exact ret_p rfl (bool_eq (by simp [bndB, h, h1, c1, c2', c3, c4, c5]))
            · (conv => whnf); (repeat (first | (refine arith_i ⟨by omega, by omega⟩ ?_; conv => whnf) | (refine need_i (by first | omega | (simp only [List.length_append, List.length_cons, List.length_nil]; omega)) ?_; conv => whnf) | ((with_reducible refine branch_tt ?_); conv => whnf) | ((with_reducible refine branch_ff ?_); conv => whnf) | (with_reducible refine branch_not ?_) | ((with_reducible refine slc_e ?_); conv => whnf) | ((with_reducible refine callS_a ?_); conv => whnf) | ((with_reducible refine bld_a ?_); conv => whnf) | ((with_reducible refine own_e ?_); conv => whnf) | ((with_reducible refine mkmap_b ?_); conv => whnf)))
              exact ret_p rfl (no (by simp; omega))
          · (conv => whnf); (repeat (first | (refine arith_i ⟨by omega, by omega⟩ ?_; conv => whnf) | (refine need_i (by first | omega | (simp only [List.length_append, List.length_cons, List.length_nil]; omega)) ?_; conv => whnf) | ((with_reducible refine branch_tt ?_); conv => whnf) | ((with_reducible refine branch_ff ?_); conv => whnf) | (with_reducible refine branch_not ?_) | ((with_reducible refine slc_e ?_); conv => whnf) | ((with_reducible refine callS_a ?_); conv => whnf) | ((with_reducible refine bld_a ?_); conv => whnf) | ((with_reducible refine own_e ?_); conv => whnf) | ((with_reducible refine mkmap_b ?_); conv => whnf)))
            exact ret_p rfl (no (by simp; omega))
        · (conv => whnf); (repeat (first | (refine arith_i ⟨by omega, by omega⟩ ?_; conv => whnf) | (refine need_i (by first | omega | (simp only [List.length_append, List.length_cons, List.length_nil]; omega)) ?_; conv => whnf) | ((with_reducible refine branch_tt ?_); conv => whnf) | ((with_reducible refine branch_ff ?_); conv => whnf) | (with_reducible refine branch_not ?_) | ((with_reducible refine slc_e ?_); conv => whnf) | ((with_reducible refine callS_a ?_); conv => whnf) | ((with_reducible refine bld_a ?_); conv => whnf) | ((with_reducible refine own_e ?_); conv => whnf) | ((with_reducible refine mkmap_b ?_); conv => whnf)))
          exact ret_p rfl (no (by simp; omega))
      · (conv => whnf); (repeat (first | (refine arith_i ⟨by omega, by omega⟩ ?_; conv => whnf) | (refine need_i (by first | omega | (simp only [List.length_append, List.length_cons, List.length_nil]; omega)) ?_; conv => whnf) | ((with_reducible refine branch_tt ?_); conv => whnf) | ((with_reducible refine branch_ff ?_); conv => whnf) | (with_reducible refine branch_not ?_) | ((with_reducible refine slc_e ?_); conv => whnf) | ((with_reducible refine callS_a ?_); conv => whnf) | ((with_reducible refine bld_a ?_); conv => whnf) | ((with_reducible refine own_e ?_); conv => whnf) | ((with_reducible refine mkmap_b ?_); conv => whnf)))
        exact ret_p rfl (no (by simp; omega))
    · (conv => whnf); (repeat (first | (refine arith_i ⟨by omega, by omega⟩ ?_; conv => whnf) | (refine need_i (by first | omega | (simp only [List.length_append, List.length_cons, List.length_nil]; omega)) ?_; conv => whnf) | ((with_reducible refine branch_tt ?_); conv => whnf) | ((with_reducible refine branch_ff ?_); conv => whnf) | (with_reducible refine branch_not ?_) | ((with_reducible refine slc_e ?_); conv => whnf) | ((with_reducible refine callS_a ?_); conv => whnf) | ((with_reducible refine bld_a ?_); conv => whnf) | ((with_reducible refine own_e ?_); conv => whnf) | ((with_reducible refine mkmap_b ?_); conv => whnf)))
      exact ret_p rfl (no (by simp; omega))
def ceilF (a b : Int) : Int := if 0 < a.tmod b then a.tdiv b + 1 else a.tdiv b
theorem ceil_ok (a b : Int) (ha : -1000000000000 ≤ a ∧ a ≤ 1000000000000) (hb : 1 ≤ b ∧ b ≤ 10000) (hq : -1000000000000 ≤ a.tdiv b ∧ a.tdiv b ≤ 1000000000000) : Good Try.prog TT false 93 [.int .i64 a, .int .i64 b] (· = .int .i64 (ceilF a b)) := by
  refine good_of mixed tabOk Try.func93 rfl rfl Try.ntmps93 Try.results93 rfl rfl ?_
  (conv => whnf); (repeat (first | (refine arith_i ⟨by omega, by omega⟩ ?_; conv => whnf) | (refine need_i (by first | omega | (simp only [List.length_append, List.length_cons, List.length_nil]; omega)) ?_; conv => whnf) | ((with_reducible refine branch_tt ?_); conv => whnf) | ((with_reducible refine branch_ff ?_); conv => whnf) | (with_reducible refine branch_not ?_) | ((with_reducible refine slc_e ?_); conv => whnf) | ((with_reducible refine callS_a ?_); conv => whnf) | ((with_reducible refine bld_a ?_); conv => whnf) | ((with_reducible refine own_e ?_); conv => whnf) | ((with_reducible refine mkmap_b ?_); conv => whnf)))
  refine branch_d (fun h => ?_) (fun h => ?_)
  · (conv => whnf); (repeat (first | (refine arith_i ⟨by omega, by omega⟩ ?_; conv => whnf) | (refine need_i (by first | omega | (simp only [List.length_append, List.length_cons, List.length_nil]; omega)) ?_; conv => whnf) | ((with_reducible refine branch_tt ?_); conv => whnf) | ((with_reducible refine branch_ff ?_); conv => whnf) | (with_reducible refine branch_not ?_) | ((with_reducible refine slc_e ?_); conv => whnf) | ((with_reducible refine callS_a ?_); conv => whnf) | ((with_reducible refine bld_a ?_); conv => whnf) | ((with_reducible refine own_e ?_); conv => whnf) | ((with_reducible refine mkmap_b ?_); conv => whnf)))
    exact ret_p rfl (int_eq (by rw [ceilF, if_pos h]))
  · (conv => whnf); (repeat (first | (refine arith_i ⟨by omega, by omega⟩ ?_; conv => whnf) | (refine need_i (by first | omega | (simp only [List.length_append, List.length_cons, List.length_nil]; omega)) ?_; conv => whnf) | ((with_reducible refine branch_tt ?_); conv => whnf) | ((with_reducible refine branch_ff ?_); conv => whnf) | (with_reducible refine branch_not ?_) | ((with_reducible refine slc_e ?_); conv => whnf) | ((with_reducible refine callS_a ?_); conv => whnf) | ((with_reducible refine bld_a ?_); conv => whnf) | ((with_reducible refine own_e ?_); conv => whnf) | ((with_reducible refine mkmap_b ?_); conv => whnf)))
    exact ret_p rfl (int_eq (by rw [ceilF, if_neg h]))
end Go.Proofs.Ytiionjpinainlaa
end

/- Layer 8, the reference by the interpreter: Valid, State, Choice, Sum, Meets, Cost, Span, Blocked, Dead. -/
section
namespace Go.Proofs.Ytiionjpinainlaa
set_option linter.unusedVariables false
set_option linter.unusedSimpArgs false
set_option linter.unnecessarySimpa false
set_option linter.unusedSectionVars false
set_option maxRecDepth 10000
open Go.RowKit
theorem costs_in {P : Prog} (h : validB P = true) : ∀ i, i < P.costs.length → -10000 ≤ nth P.costs i ∧ nth P.costs i ≤ 10000 := fun i hi => by
  have := costB_iff.1 (AllTo.of_all (validB_parts h).2.2.1 i hi)
  omega
end Go.Proofs.Ytiionjpinainlaa
end

/- Layer 9 by the interpreter: a state with one more option decided. -/
section
namespace Go.Proofs.Ytiionjpinainlaa
set_option linter.unusedVariables false
set_option linter.unusedSimpArgs false
set_option linter.unnecessarySimpa false
set_option linter.unusedSectionVars false
set_option maxRecDepth 10000
open Go.RowKit

theorem clone_ok (xs : List Int) (hl : xs.length ≤ 1000000) : Good Try.prog TT false 35 [ints xs] (· = .own 0 3 1 (xs.map encI)) := by
  have L : (xs.map encI).length = xs.length := List.length_map ..
  refine good_of mixed tabOk Try.func35 rfl rfl Try.ntmps35 Try.results35 rfl rfl ?_
  (conv => whnf); (repeat (first | (refine arith_i ⟨by omega, by omega⟩ ?_; conv => whnf) | (refine need_i (by first | omega | (simp only [List.length_append, List.length_cons, List.length_nil]; omega)) ?_; conv => whnf) | ((with_reducible refine branch_tt ?_); conv => whnf) | ((with_reducible refine branch_ff ?_); conv => whnf) | (with_reducible refine branch_not ?_) | ((with_reducible refine slc_e ?_); conv => whnf) | ((with_reducible refine callS_a ?_); conv => whnf) | ((with_reducible refine bld_a ?_); conv => whnf) | ((with_reducible refine own_e ?_); conv => whnf) | ((with_reducible refine mkmap_b ?_); conv => whnf)))
  refine nil_i (fun h => ?_) ?_
  · (conv => whnf); (repeat (first | (refine arith_i ⟨by omega, by omega⟩ ?_; conv => whnf) | (refine need_i (by first | omega | (simp only [List.length_append, List.length_cons, List.length_nil]; omega)) ?_; conv => whnf) | ((with_reducible refine branch_tt ?_); conv => whnf) | ((with_reducible refine branch_ff ?_); conv => whnf) | (with_reducible refine branch_not ?_) | ((with_reducible refine slc_e ?_); conv => whnf) | ((with_reducible refine callS_a ?_); conv => whnf) | ((with_reducible refine bld_a ?_); conv => whnf) | ((with_reducible refine own_e ?_); conv => whnf) | ((with_reducible refine mkmap_b ?_); conv => whnf)))
    exact ret_n (e := 3) (z := 1) (by rw [h])
  · (conv => whnf); (repeat (first | (refine arith_i ⟨by omega, by omega⟩ ?_; conv => whnf) | (refine need_i (by first | omega | (simp only [List.length_append, List.length_cons, List.length_nil]; omega)) ?_; conv => whnf) | ((with_reducible refine branch_tt ?_); conv => whnf) | ((with_reducible refine branch_ff ?_); conv => whnf) | (with_reducible refine branch_not ?_) | ((with_reducible refine slc_e ?_); conv => whnf) | ((with_reducible refine callS_a ?_); conv => whnf) | ((with_reducible refine bld_a ?_); conv => whnf) | ((with_reducible refine own_e ?_); conv => whnf) | ((with_reducible refine mkmap_b ?_); conv => whnf)))
    exact ret_o rfl
theorem encI_set {y : Int} : ∀ {xs : List Int} {k : Nat}, (xs.map encI).modify k (·.set 0 (.int .i64 y)) = (xs.set k y).map encI
  | [], _ => by simp
  | x :: xs, 0 => by simp [encI, List.modify_zero_cons]
  | x :: xs, k + 1 => by simp only [List.map_cons, List.modify_succ_cons, List.set_cons_succ, encI_set]
end Go.Proofs.Ytiionjpinainlaa
end

/- Layer 5, plain: topics in a tree, marks that are rolled up. No program in sight. -/
section
namespace Go.Proofs.Ytiionjpinainlaa
set_option linter.unusedVariables false
set_option linter.unusedSimpArgs false
set_option linter.unnecessarySimpa false
set_option linter.unusedSectionVars false

def sumN (f : Nat → Int) : Nat → Int
  | 0 => 0
  | n + 1 => sumN f n + f n
section
variable {p : Nat → Int} (hp : ∀ k, -1 ≤ p k ∧ p k < k)
include hp in
include hp in
include hp in
include hp in
include hp in
include hp in
include hp in
include hp in
include hp in
include hp in
include hp in
include hp in
end
end Go.Proofs.Ytiionjpinainlaa
end
