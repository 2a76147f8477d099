/- Layer 8: the rows of a blueprint, in plain Lean; items by the interpreter: Total, Enemy, Contains. -/
import Derived.Test.YtjgaacjfoaohnaaGL08h
namespace Go.Proofs.Ytjgaacjfoaohnaa
set_option linter.unusedVariables false
set_option linter.unusedSimpArgs false
set_option linter.unnecessarySimpa false
set_option linter.unusedSectionVars false
set_option maxRecDepth 10000
open Go.RowKit
/-- The sum of a number of each element. -/
def tot {α : Type} (f : α → Int) : List α → Int
  | [] => 0
  | x :: xs => f x + tot f xs
theorem tot_app {α : Type} {f : α → Int} {a b : List α} : tot f (a ++ b) = tot f a + tot f b := by
  induction a with
  | nil => simp [tot]
  | cons x a ih => simp only [List.cons_append, tot, ih]; omega
theorem tot_take {α : Type} {f : α → Int} {l : List α} {k : Nat} {x : α} (h : l[k]? = some x) : tot f (l.take (k + 1)) = tot f (l.take k) + f x := by
  rw [List.take_add_one, h, tot_app]; simp [tot]
theorem tot_bd {α : Type} {f : α → Int} {m : Int} (hm : 0 ≤ m) : ∀ {l : List α}, (∀ x ∈ l, 0 ≤ f x ∧ f x ≤ m) → 0 ≤ tot f l ∧ tot f l ≤ m * l.length
  | [], _ => by simp [tot]
  | x :: l, h => by
    have h1 := h x (by simp)
    have h2 := tot_bd hm (l := l) fun y hy => h y (by simp [hy])
    simp only [tot, List.length_cons]
    rw [show m * ((l.length + 1 : Nat) : Int) = m * (l.length : Int) + m by rw [Int.natCast_add, Int.mul_add]; simp]
    omega
theorem tot_end {α : Type} {f : α → Int} {l : List α} {k : Nat} (h : l.length ≤ k) : tot f (l.take k) = tot f l := by rw [List.take_of_length_le h]
theorem itemF_ok {x : Itm} (h : itemF x = 0) : x.parts.length ≤ 6 ∧ x.foes.length ≤ 8 ∧ (0 ≤ x.id ∧ x.id ≤ 9999) ∧ ∀ p ∈ x.parts, vPartB p = true := by
  unfold itemF at h
  split at h
  · cases h
  split at h
  · cases h
  split at h
  · cases h
  split at h
  · cases h
  split at h
  · cases h
  next h1 h2 h3 h4 h5 =>
  refine ⟨by omega, by omega, by omega, ?_⟩
  rw [Bool.not_eq_false, List.all_eq_true] at h5
  exact h5
theorem part_max {p : Prt} (h : vPartB p = true) : 1 ≤ p.max ∧ p.max ≤ 40 := by
  rw [vPartB, decide_eq_true_eq] at h; omega
theorem parts_take {x : Itm} {k : Nat} (h : itemF x = 0) (f : Prt → Int) (hf : ∀ p ∈ x.parts, 0 ≤ f p ∧ f p ≤ 40) : 0 ≤ tot f (x.parts.take k) ∧ tot f (x.parts.take k) ≤ 240 := by
  have h1 := tot_bd (m := 40) (by omega) (l := x.parts.take k) fun p hp => hf p (List.mem_of_mem_take hp)
  have h2 := (itemF_ok h).1
  have h3 : (x.parts.take k).length ≤ 6 := by rw [List.length_take]; omega
  omega
def totalF (x : Itm) : Int := if itemF x = 0 then tot Prt.max x.parts else 0
def enemyB (a b : Itm) : Bool := decide (itemF a = 0) && decide (itemF b = 0) && decide (a.id ≠ b.id) && (hasB a.foes b.id || hasB b.foes a.id)
def markT (t : Bool) (i : Int) (p : Prt) : Int := if (bif t then p.topic else p.obj) = i then p.max else 0
def marksF (t : Bool) (i : Int) (x : Itm) : Int := tot (markT t i) x.parts
def oneF (b : Bool) : Int := bif b then 1 else 0
def usesB (f : Frm) (x : Itm) : Bool := f.items.any fun p => decide (p.1 = x.id) && decide (p.2 = x.ver)
def pairRow (n i j : Nat) : Row := ⟨(List.range n).map fun k => if k = i ∨ k = j then 1 else 0, 0, 1⟩
def clashB (a b : Itm) : Bool := decide (a.id = b.id) || enemyB a b
def itmAt (l : List Itm) (i : Nat) : Itm := l.getD i ⟨0, 0, ⟨#[]⟩, [], []⟩
theorem itmAt_eq {l : List Itm} {i : Nat} {x : Itm} (h : l[i]? = some x) : itmAt l i = x := by simp [itmAt, List.getD_eq_getElem?_getD, h]
def pairJ (l : List Itm) (i : Nat) : Nat → Nat → List Row
  | 0, _ => []
  | m + 1, j => (bif clashB (itmAt l i) (itmAt l j) then [pairRow l.length i j] else []) ++ pairJ l i m (j + 1)
def pairI (l : List Itm) : Nat → Nat → List Row
  | 0, _ => []
  | m + 1, i => pairJ l i (l.length - (i + 1)) (i + 1) ++ pairI l m (i + 1)
def pairsF (l : List Itm) : List Row := pairI l l.length 0
theorem pairJ_len {l : List Itm} {i : Nat} : ∀ {m j : Nat}, (pairJ l i m j).length ≤ m
  | 0, j => by simp [pairJ]
  | m + 1, j => by
    have := pairJ_len (l := l) (i := i) (m := m) (j := j + 1)
    rw [pairJ, List.length_append]
    cases clashB (itmAt l i) (itmAt l j) <;> simp <;> omega
theorem pairI_len {l : List Itm} : ∀ {m i : Nat}, (pairI l m i).length ≤ m * l.length
  | 0, i => by simp [pairI]
  | m + 1, i => by
    have h1 := pairJ_len (l := l) (i := i) (m := l.length - (i + 1)) (j := i + 1)
    have h2 := pairI_len (l := l) (m := m) (i := i + 1)
    rw [pairI, List.length_append, Nat.succ_mul]
    omega
def rowT (t : Bool) (l : List Itm) (r : Rng) : Row := ⟨l.map (marksF t r.index), r.least, r.most⟩
def rowR (l : List Itm) (id : Int) : Row := ⟨l.map fun x => oneF (decide (x.id = id)), 1, 1⟩
def rowP (o : Int) (l : List Itm) (f : Frm) : Row := ⟨l.map fun x => oneF (usesB f x), 0, o⟩
def row1 (b : Blu) (l : List Itm) : Row := ⟨l.map fun _ => 1, b.leastItems, b.mostItems⟩
def row2 (b : Blu) (l : List Itm) : Row := ⟨l.map totalF, b.leastMarks, b.mostMarks⟩
def rowsL (b : Blu) (l : List Itm) : List Row := [row1 b l, row2 b l] ++ b.topics.map (rowT true l) ++ b.objectives.map (rowT false l) ++ b.required.map (rowR l) ++ pairsF l ++ b.previous.map (rowP b.overlap l)
def rowsE (b : Blu) (l : List Itm) : Int := if bluF b ≠ 0 then bluF b else if 12 < l.length then 3 else if l.all (fun x => decide (itemF x = 0)) = false then 1 else if 60 < (rowsL b l).length then 3 else 0
def rowsR (b : Blu) (l : List Itm) : AV := .tup [rowsV (if rowsE b l = 0 then rowsL b l else []), .int .i64 (rowsE b l)]
theorem rows_err {b : Blu} {l : List Itm} {e : Int} (h : rowsE b l = e) (he : e ≠ 0) : aret (.tup [.nil, .int .i64 e]) (· = rowsR b l) :=
  ret_t (rs := [rowsV [], .int .i64 e]) ⟨rc_n.g, (rc_p rfl).g, trivial⟩ (by rw [rowsR, h, if_neg he])
theorem blu_parts {b : Blu} (h : bluF b = 0) : b.topics.length ≤ 16 ∧ b.objectives.length ≤ 6 ∧ b.required.length ≤ 12 ∧ b.previous.length ≤ 4 := by
  unfold bluF at h
  split at h
  · cases h
  split at h
  · cases h
  next h2 =>
  rw [Bool.not_eq_false, lenB] at h2
  simp only [Bool.and_eq_true, decide_eq_true_eq] at h2
  omega
/-! items -/
end Go.Proofs.Ytjgaacjfoaohnaa
