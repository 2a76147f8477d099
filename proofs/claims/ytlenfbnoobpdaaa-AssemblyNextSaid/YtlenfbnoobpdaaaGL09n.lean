/- Layer 9: the generator Tree. -/
import Derived.Test.YtlenfbnoobpdaaaGL09m

namespace Go.Proofs.Ytlenfbnoobpdaaa
set_option linter.unusedVariables false
set_option linter.unusedSimpArgs false
set_option linter.unnecessarySimpa false
set_option linter.unusedSectionVars false
set_option maxRecDepth 10000
open Go.RowKit

/-- How many options are undecided. -/
def und : List Int → Nat
  | [] => 0
  | x :: l => (if x = -1 then 1 else 0) + und l
theorem und_set {x : Int} (hx : x ≠ -1) : ∀ {s : List Int} {v : Nat}, s[v]? = some (-1) → und (s.set v x) + 1 = und s
  | [], v, h => by simp at h
  | y :: s, 0, h => by
    simp at h
    subst h
    simp [und, hx]; omega
  | y :: s, v + 1, h => by
    have := und_set hx (s := s) (v := v) (by simpa using h)
    simp only [List.set_cons_succ, und]
    omega
def wt (s : List Int) : Nat := 2 ^ (und s + 1) - 1
def wsum : List (List Int) → Nat
  | [] => 0
  | s :: l => wt s + wsum l
theorem wsum_append (a b : List (List Int)) : wsum (a ++ b) = wsum a + wsum b := by
  induction a with
  | nil => simp [wsum]
  | cons x a ih => simp only [List.cons_append, wsum, ih]; omega
theorem wt_pos (s : List Int) : 1 ≤ wt s := by
  have := Nat.one_le_two_pow (n := und s)
  unfold wt
  rw [Nat.pow_succ]
  omega
theorem len_wsum (l : List (List Int)) : l.length ≤ wsum l := by
  induction l with
  | nil => simp [wsum]
  | cons s l ih => have := wt_pos s; simp only [List.length_cons, wsum]; omega
theorem wt_set {s : List Int} {v : Nat} {x : Int} (hx : x ≠ -1) (h : s[v]? = some (-1)) : 2 * wt (s.set v x) + 1 = wt s := by
  have h1 := und_set hx h
  have h2 := Nat.one_le_two_pow (n := und (s.set v x))
  unfold wt
  rw [← h1, Nat.pow_succ, Nat.pow_succ]
  omega
/-- How many nodes are branches. -/
def brs : List Nd → Nat
  | [] => 0
  | n :: l => (if n.kind = 1 then 1 else 0) + brs l
theorem brs_snoc (l : List Nd) (n : Nd) : brs (l ++ [n]) = brs l + if n.kind = 1 then 1 else 0 := by
  induction l with
  | nil => simp [brs]
  | cons x l ih => simp only [List.cons_append, brs, ih]; omega
/-- A node of a tree as the tape makes it; z: where its children lie, if it is a branch. -/
def TNode (P : Prog) (full : Bool) (S : List (List Int)) (z j : Nat) (n : Nd) (s : List Int) : Prop :=
  (n.kind = 1 ∧ n.zero = z ∧ n.one = z + 1 ∧ j < z ∧ 0 ≤ n.var ∧ n.var < P.costs.length ∧ nth s n.var.toNat = -1 ∧ S[z]? = some (s.set n.var.toNat 0) ∧ S[z + 1]? = some (s.set n.var.toNat 1)) ∨
  (full = true ∧ 0 ≤ deadF P s ∧ n = ⟨2, 0, 0, 0, deadF P s, 0, 0⟩) ∨ (full = true ∧ deadF P s < 0 ∧ (∀ x ∈ s, x ≠ -1) ∧ n = ⟨3, 0, 0, 0, -1, 0, 1⟩) ∨ (full = false ∧ LeafG P s n)
structure TreeInv (P : Prog) (full : Bool) (i : Nat) (S : List (List Int)) (l : List Nd) : Prop where
  li : l.length = i
  iS : i ≤ S.length
  Sl : S.length = 1 + 2 * brs l
  root : S[0]? = some (List.replicate P.costs.length (-1))
  tri : ∀ s ∈ S, stOB s P.costs.length = true
  node : ∀ (j : Nat) n s, l[j]? = some n → S[j]? = some s → TNode P full S (1 + 2 * brs (l.take j)) j n s
  size : i + wsum (S.drop i) ≤ 2 ^ (P.costs.length + 1) - 1
  pre : ∀ j, j < i → j < 1 + 2 * brs (l.take j)
section
variable {P : Prog} {full : Bool} {i : Nat} {S : List (List Int)} {l : List Nd} {s : List Int} {n : Nd}
theorem TreeInv.start : TreeInv P full 0 [List.replicate P.costs.length (-1)] [] := by
  have hu : ∀ k, und (List.replicate k (-1)) = k := fun k => by
    induction k with
    | zero => rfl
    | succ k ih => rw [List.replicate_succ, und, ih]; simp; omega
  refine ⟨rfl, by simp, rfl, rfl, fun s hs => ?_, fun j n s h => by simp at h, ?_, fun j hj => by omega⟩
  · rw [List.mem_singleton.1 hs]
    simp [stOB, tri9]
  · simp only [List.drop_zero, wsum, wt, hu]
    omega
theorem TreeInv.leaf (h : TreeInv P full i S l) (hs : S[i]? = some s) (hk : n.kind ≠ 1) (hn : (full = true ∧ 0 ≤ deadF P s ∧ n = ⟨2, 0, 0, 0, deadF P s, 0, 0⟩) ∨ (full = true ∧ deadF P s < 0 ∧ (∀ x ∈ s, x ≠ -1) ∧ n = ⟨3, 0, 0, 0, -1, 0, 1⟩) ∨ (full = false ∧ LeafG P s n)) :
    TreeInv P full (i + 1) S (l ++ [n]) ∧ wsum (S.drop (i + 1)) < wsum (S.drop i) := by
  have hlt := (List.getElem?_eq_some_iff.1 hs).1
  have hw : wsum (S.drop i) = wt s + wsum (S.drop (i + 1)) := by rw [drop_at hs, wsum]
  have hp := wt_pos s
  have hli := h.li
  refine ⟨⟨by simp [hli], hlt, by rw [brs_snoc, if_neg hk]; exact h.Sl, h.root, h.tri, fun j n' s' h1 h2 => ?_, by have := h.size; omega, fun j hj => by
      rcases Nat.lt_or_ge j i with hji | hji
      · rw [List.take_append_of_le_length (by omega)]; exact h.pre j hji
      · rw [List.take_append_of_le_length (by omega), List.take_of_length_le (by omega)]; have := h.Sl; omega⟩, by omega⟩
  rcases Nat.lt_or_ge j i with hj | hj
  · rw [List.getElem?_append_left (by omega)] at h1
    rw [List.take_append_of_le_length (by omega)]
    exact h.node j n' s' h1 h2
  · have hjl : j < (l ++ [n]).length := (List.getElem?_eq_some_iff.1 h1).1
    obtain rfl : j = i := by simp at hjl; omega
    have e : n' = n := by
      rw [List.getElem?_append_right (by omega), hli, Nat.sub_self] at h1
      simpa using h1.symm
    rw [hs] at h2
    injection h2 with h2
    subst h2
    subst e
    exact .inr hn
theorem TreeInv.branch (h : TreeInv P full i S l) (hs : S[i]? = some s) {v : Nat} (hv : s[v]? = some (-1)) : TreeInv P full (i + 1) (S ++ [s.set v 0, s.set v 1]) (l ++ [⟨1, v, S.length, S.length + 1, 0, 0, 0⟩]) ∧ wsum ((S ++ [s.set v 0, s.set v 1]).drop (i + 1)) < wsum (S.drop i) := by
  have hlt := (List.getElem?_eq_some_iff.1 hs).1
  have hvl := (List.getElem?_eq_some_iff.1 hv).1
  have hw : wsum (S.drop i) = wt s + wsum (S.drop (i + 1)) := by rw [drop_at hs, wsum]
  have hsO := h.tri s (List.mem_of_getElem? hs)
  have hsl := st_len hsO
  have h0 := wt_set (x := 0) (by omega) hv
  have h1 := wt_set (x := 1) (by omega) hv
  have hd : (S ++ [s.set v 0, s.set v 1]).drop (i + 1) = S.drop (i + 1) ++ [s.set v 0, s.set v 1] := by
    rw [List.drop_append_of_le_length (by omega)]
  have hws : wsum ((S ++ [s.set v 0, s.set v 1]).drop (i + 1)) + 1 = wsum (S.drop i) := by
    rw [hd, wsum_append, hw]
    simp only [wsum]
    omega
  have hli := h.li
  have hSl := h.Sl
  refine ⟨⟨by simp [hli], by simp; omega, by rw [brs_snoc, if_pos rfl]; simp; omega, ?_, fun x hx => ?_, fun j n' s' g1 g2 => ?_, by have := h.size; omega, fun j hj => by
      rcases Nat.lt_or_ge j i with hji | hji
      · rw [List.take_append_of_le_length (by omega)]; exact h.pre j hji
      · rw [List.take_append_of_le_length (by omega), List.take_of_length_le (by omega)]; have := h.Sl; omega⟩, by omega⟩
  · rw [List.getElem?_append_left (by omega)]; exact h.root
  · rcases List.mem_append.1 hx with hx | hx
    · exact h.tri x hx
    · simp at hx
      rcases hx with rfl | rfl
      · exact stO_set hsO (by omega)
      · exact stO_set hsO (by omega)
  · rcases Nat.lt_or_ge j i with hj | hj
    · rw [List.getElem?_append_left (by omega)] at g1
      rw [List.getElem?_append_left (by omega)] at g2
      rw [List.take_append_of_le_length (by omega)]
      rcases h.node j n' s' g1 g2 with ⟨a1, a2, a3, a4, a5, a6, a7, a8, a9⟩ | a
      · refine .inl ⟨a1, a2, a3, a4, a5, a6, a7, ?_, ?_⟩
        · rw [List.getElem?_append_left (List.getElem?_eq_some_iff.1 a8).1]; exact a8
        · rw [List.getElem?_append_left (List.getElem?_eq_some_iff.1 a9).1]; exact a9
      · exact .inr a
    · have hjl := (List.getElem?_eq_some_iff.1 g1).1
      obtain rfl : j = i := by simp at hjl; omega
      have e : n' = ⟨1, v, S.length, S.length + 1, 0, 0, 0⟩ := by
        rw [List.getElem?_append_right (by omega), hli, Nat.sub_self] at g1
        simpa using g1.symm
      rw [List.getElem?_append_left (by omega), hs] at g2
      injection g2 with g2
      subst g2
      subst e
      have et : (l ++ [(⟨1, v, S.length, S.length + 1, 0, 0, 0⟩ : Nd)]).take j = l := by
        rw [List.take_append_of_le_length (by omega), List.take_of_length_le (by omega)]
      rw [et, ← hSl]
      refine .inl ⟨rfl, rfl, rfl, hlt, by show (0 : Int) ≤ v; omega, by show (v : Int) < _; omega, ?_, ?_, ?_⟩
      · show nth s (v : Int).toNat = -1
        rw [Int.toNat_natCast, nth_eq hv]
      · show (S ++ [s.set v 0, s.set v 1])[S.length]? = some (s.set (v : Int).toNat 0)
        rw [List.getElem?_append_right (by omega), Nat.sub_self, Int.toNat_natCast]; rfl
      · show (S ++ [s.set v 0, s.set v 1])[S.length + 1]? = some (s.set (v : Int).toNat 1)
        rw [List.getElem?_append_right (by omega), show S.length + 1 - S.length = 1 by omega, Int.toNat_natCast]; rfl
theorem TreeInv.small (h : TreeInv P full i S l) (hc : P.costs.length ≤ 18) : S.length ≤ 524287 := by
  have h1 := h.size
  have h2 := len_wsum (S.drop i)
  have h3 := h.iS
  have h4 : 2 ^ (P.costs.length + 1) ≤ 2 ^ 19 := Nat.pow_le_pow_right (by omega) (by omega)
  rw [List.length_drop] at h2
  omega
end
end Go.Proofs.Ytlenfbnoobpdaaa
