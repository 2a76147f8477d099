/- Layer 5 by the interpreter: the error of a syllabus: plain part. -/
import Derived.Test.YtkmagoljpfpgmaaGL05b
namespace Go.Proofs.Ytkmagoljpfpgmaa
set_option linter.unusedVariables false
set_option linter.unusedSimpArgs false
set_option linter.unnecessarySimpa false
set_option linter.unusedSectionVars false
set_option maxRecDepth 10000
open Go.RowKit

structure Tpc where
  name : ByteArray
  parent : Int
structure Cmp where
  name : ByteArray
  weight : Int
  maxi : Int
structure Syl where
  tops : List Tpc
  objs : List ByteArray
  comps : List Cmp
def encTpc (t : Tpc) : List AV := [.str t.name, .int .i64 t.parent]
def encCmp (c : Cmp) : List AV := [.str c.name, .int .i64 c.weight, .int .i64 c.maxi]
def tpcsV (l : List Tpc) : AV := .lst 2 (l.map encTpc)
def cmpsV (l : List Cmp) : AV := .lst 3 (l.map encCmp)
def sylC (s : Syl) : List AV := [tpcsV s.tops, strs s.objs, cmpsV s.comps]
def sylV (s : Syl) : AV := .agg (sylC s)
def ShortS (s : Syl) : Prop := s.tops.length ≤ 1000 ∧ s.objs.length ≤ 1000 ∧ s.comps.length ≤ 1000
def parB (i : Nat) (p : Int) : Bool := decide (-1 ≤ p) && decide (p < i)
def cmpB (c : Cmp) : Bool := decide (0 ≤ c.weight) && decide (c.weight ≤ 1000) && decide (1 ≤ c.maxi) && decide (c.maxi ≤ 200)
def topicsF (seen : List ByteArray) : List Tpc → Int
  | [] => 0
  | t :: ts => if freshF seen t.name ≠ 0 then freshF seen t.name else if parB seen.length t.parent = false then 2 else topicsF (seen ++ [t.name]) ts
def objsF (seen : List ByteArray) : List ByteArray → Int
  | [] => 0
  | x :: xs => if freshF seen x ≠ 0 then freshF seen x else objsF (seen ++ [x]) xs
def compsF (seen : List ByteArray) : List Cmp → Int
  | [] => 0
  | c :: cs => if freshF seen c.name ≠ 0 then freshF seen c.name else if cmpB c = false then 2 else compsF (seen ++ [c.name]) cs
def lensB (s : Syl) : Bool := decide (s.tops.length ≤ 16) && decide (s.objs.length ≤ 6) && decide (s.comps.length ≤ 6)
def checkS (s : Syl) : Int := if lensB s = false then 3 else if topicsF [] s.tops ≠ 0 then topicsF [] s.tops else if objsF [] s.objs ≠ 0 then objsF [] s.objs else compsF [] s.comps
theorem topics_step {l : List Tpc} {k : Nat} {t : Tpc} (h : l[k]? = some t) : topicsF ((l.take k).map (·.name)) (l.drop k) = if freshF ((l.take k).map (·.name)) t.name ≠ 0 then freshF ((l.take k).map (·.name)) t.name else if parB k t.parent = false then 2 else topicsF ((l.take (k + 1)).map (·.name)) (l.drop (k + 1)) := by
  obtain ⟨hk, he⟩ := List.getElem?_eq_some_iff.1 h
  have hl : ((l.take k).map (·.name)).length = k := by simp; omega
  rw [List.drop_eq_getElem_cons hk, he, topicsF, hl, List.take_add_one, h]
  simp
theorem comps_step {l : List Cmp} {k : Nat} {t : Cmp} (h : l[k]? = some t) : compsF ((l.take k).map (·.name)) (l.drop k) = if freshF ((l.take k).map (·.name)) t.name ≠ 0 then freshF ((l.take k).map (·.name)) t.name else if cmpB t = false then 2 else compsF ((l.take (k + 1)).map (·.name)) (l.drop (k + 1)) := by
  obtain ⟨hk, he⟩ := List.getElem?_eq_some_iff.1 h
  rw [List.drop_eq_getElem_cons hk, he, compsF, List.take_add_one, h]
  simp
theorem objs_step {l : List ByteArray} {k : Nat} {x : ByteArray} (h : l[k]? = some x) : objsF (l.take k) (l.drop k) = if freshF (l.take k) x ≠ 0 then freshF (l.take k) x else objsF (l.take (k + 1)) (l.drop (k + 1)) := by
  obtain ⟨hk, he⟩ := List.getElem?_eq_some_iff.1 h
  rw [List.drop_eq_getElem_cons hk, he, objsF, List.take_add_one, h]
  rfl
/-- Names that have been written into a list, and what is still empty. -/
def pad {α : Type} (f : α → ByteArray) (l : List α) (k : Nat) : List ByteArray := (l.take k).map f ++ List.replicate (l.length - k) ByteArray.empty
theorem pad_len {α : Type} {f : α → ByteArray} {l : List α} {k : Nat} (h : k ≤ l.length) : (pad f l k).length = l.length := by simp [pad]; omega
theorem pad_set {α : Type} {f : α → ByteArray} {l : List α} {k : Nat} {t : α} (h : l[k]? = some t) : (pad f l k).set k (f t) = pad f l (k + 1) := by
  obtain ⟨hk, he⟩ := List.getElem?_eq_some_iff.1 h
  have hl : ((l.take k).map f).length = k := by simp; omega
  unfold pad
  rw [show l.length - k = (l.length - (k + 1)) + 1 by omega, List.replicate_succ, List.set_append_right _ _ (by omega), hl, Nat.sub_self, List.set_cons_zero, List.take_add_one, h]
  simp
theorem pad_get {α : Type} {f : α → ByteArray} {l : List α} {k : Nat} {t : α} (h : l[k]? = some t) : (pad f l (k + 1))[k]? = some (f t) := by
  obtain ⟨hk, he⟩ := List.getElem?_eq_some_iff.1 h
  rw [← pad_set h, List.getElem?_set]
  simp [pad_len (Nat.le_of_lt hk), hk]
theorem pad_take {α : Type} {f : α → ByteArray} {l : List α} {k : Nat} (h : k < l.length) : (pad f l (k + 1)).take k = (l.take k).map f := by
  unfold pad
  rw [List.take_append_of_le_length (by simp; omega), ← List.map_take, List.take_take, Nat.min_eq_left (by omega)]
theorem encS_set {y : ByteArray} : ∀ {xs : List ByteArray} {k : Nat}, (xs.map encS).modify k (·.set 0 (.str y)) = (xs.set k y).map encS
  | [], _ => by simp
  | x :: xs, 0 => by simp [encS, List.modify_zero_cons]
  | x :: xs, k + 1 => by simp only [List.map_cons, List.modify_succ_cons, List.set_cons_succ, encS_set]
theorem pad_enc {α : Type} {f : α → ByteArray} {l : List α} {k : Nat} {t : α} (h : l[k]? = some t) : ((pad f l k).map encS).modify k (·.set 0 (.str (f t))) = (pad f l (k + 1)).map encS := by rw [encS_set, pad_set h]
theorem pad_zero {α : Type} {f : α → ByteArray} {l : List α} : (pad f l 0).map encS = List.replicate l.length [.str ByteArray.empty] := by simp [pad, encS, List.map_replicate]
end Go.Proofs.Ytkmagoljpfpgmaa
