/- Layer 8 in plain Lean: what Valid, Meets, Cost, Span, Dead come to. No program in sight. -/
import Derived.Test.YtipelkbdonfkoaaTypes
namespace Go.Proofs.Ytipelkbdonfkoaa
set_option linter.unusedVariables false

def AllTo (p : Int → Bool) (xs : List Int) (k : Nat) : Prop := ∀ i, i < k → p (nth xs i) = true
section
variable {p : Int → Bool} {xs : List Int} {k : Nat}
theorem AllTo.zero : AllTo p xs 0 := fun i h => absurd h (by omega)
theorem AllTo.step (h : AllTo p xs k) (hk : p (nth xs k) = true) : AllTo p xs (k + 1) := fun i hi => by
  rcases Nat.lt_or_ge i k with h' | h'
  · exact h i h'
  · obtain rfl : i = k := by omega
    exact hk
theorem nth_mem (h : k < xs.length) : nth xs k ∈ xs := List.mem_of_getElem? (nth_some h)
theorem mem_nth {x : Int} (h : x ∈ xs) : ∃ i, i < xs.length ∧ nth xs i = x := by
  obtain ⟨i, hi, rfl⟩ := List.mem_iff_getElem.1 h
  have := nth_some hi
  rw [List.getElem?_eq_getElem hi] at this
  exact ⟨i, hi, (Option.some.inj this).symm⟩
theorem AllTo.full (h : AllTo p xs k) (hk : xs.length ≤ k) : xs.all p = true := by
  rw [List.all_eq_true]
  intro x hx
  obtain ⟨i, hi, rfl⟩ := mem_nth hx
  exact h i (by omega)
theorem all_fail (hk : k < xs.length) (h : p (nth xs k) = false) : xs.all p = false := by
  rw [List.all_eq_false]
  exact ⟨_, nth_mem hk, by simp [h]⟩
end

def coefB (c : Int) : Bool := decide (-10000 ≤ c) && decide (c ≤ 10000)
def costB (c : Int) : Bool := decide (0 ≤ c) && decide (c ≤ 10000)
def boundB (c : Int) : Bool := decide (-1000000 ≤ c) && decide (c ≤ 1000000)
def triB (c : Int) : Bool := decide (-1 ≤ c) && decide (c ≤ 1)
def validCoefsB (cs : List Int) : Bool := cs.all coefB
def isStateB (st : List Int) (n : Nat) : Bool := decide (st.length = n) && decide (n ≤ 12) && st.all triB

/-- The least and the greatest sum over the first k options. -/
def spanTo (cs st : List Int) : Nat → Int × Int
  | 0 => (0, 0)
  | k + 1 => if nth st k = 1 then ((spanTo cs st k).1 + nth cs k, (spanTo cs st k).2 + nth cs k)
    else if nth st k = -1 then ((spanTo cs st k).1 + min (nth cs k) 0, (spanTo cs st k).2 + max (nth cs k) 0) else spanTo cs st k
def spanB (cs st : List Int) : Bool := isStateB st cs.length && validCoefsB cs
def spanF (cs st : List Int) : Int × Int := if spanB cs st then spanTo cs st cs.length else (0, 0)
theorem coefB_iff {c : Int} : coefB c = true ↔ -10000 ≤ c ∧ c ≤ 10000 := by simp [coefB]
theorem triB_iff {c : Int} : triB c = true ↔ -1 ≤ c ∧ c ≤ 1 := by simp [triB]
theorem costB_iff {c : Int} : costB c = true ↔ 0 ≤ c ∧ c ≤ 10000 := by simp [costB]
theorem boundB_iff {c : Int} : boundB c = true ↔ -1000000 ≤ c ∧ c ≤ 1000000 := by simp [boundB]
theorem spanTo_bd {cs st : List Int} (k : Nat) (h : AllTo coefB cs k) : -(10000 * k) ≤ (spanTo cs st k).1 ∧ (spanTo cs st k).1 ≤ 10000 * k ∧ -(10000 * k) ≤ (spanTo cs st k).2 ∧ (spanTo cs st k).2 ≤ 10000 * k := by
  induction k with
  | zero => simp [spanTo]
  | succ k ih =>
    have ih := ih fun i hi => h i (by omega)
    have hc := coefB_iff.1 (h k (by omega))
    rw [spanTo]
    split
    · simp only; omega
    · split
      · simp only; omega
      · omega
theorem AllTo.of_all {p : Int → Bool} {xs : List Int} (h : xs.all p = true) : AllTo p xs xs.length := fun i hi => List.all_eq_true.1 h _ (nth_mem hi)

def AllR (p : Row → Bool) (rs : List Row) (k : Nat) : Prop := ∀ i, i < k → p (rowAt rs i) = true
section
variable {p : Row → Bool} {rs : List Row} {k : Nat}
theorem AllR.zero : AllR p rs 0 := fun i h => absurd h (by omega)
theorem AllR.step (h : AllR p rs k) (hk : p (rowAt rs k) = true) : AllR p rs (k + 1) := fun i hi => by
  rcases Nat.lt_or_ge i k with h' | h'
  · exact h i h'
  · obtain rfl : i = k := by omega
    exact hk
theorem rowAt_mem (h : k < rs.length) : rowAt rs k ∈ rs := List.mem_of_getElem? (rowAt_some h)
theorem mem_rowAt {x : Row} (h : x ∈ rs) : ∃ i, i < rs.length ∧ rowAt rs i = x := by
  obtain ⟨i, hi, rfl⟩ := List.mem_iff_getElem.1 h
  have := rowAt_some hi
  rw [List.getElem?_eq_getElem hi] at this
  exact ⟨i, hi, (Option.some.inj this).symm⟩
theorem AllR.full (h : AllR p rs k) (hk : rs.length ≤ k) : rs.all p = true := by
  rw [List.all_eq_true]
  intro x hx
  obtain ⟨i, hi, rfl⟩ := mem_rowAt hx
  exact h i (by omega)
theorem allR_fail (hk : k < rs.length) (h : p (rowAt rs k) = false) : rs.all p = false := by
  rw [List.all_eq_false]
  exact ⟨_, rowAt_mem hk, by simp [h]⟩
theorem AllR.of_all (h : rs.all p = true) : AllR p rs rs.length := fun i hi => List.all_eq_true.1 h _ (rowAt_mem hi)
end

def rowB (n : Nat) (r : Row) : Bool := decide (r.coefs.length = n) && validCoefsB r.coefs && boundB r.least && boundB r.most
def validB (P : Prog) : Bool := decide (P.costs.length ≤ 12) && decide (P.rows.length ≤ 60) && P.costs.all costB && P.rows.all (rowB P.costs.length)
def choiceAt (ch : List Int) (n : Nat) (i : Nat) : Bool := decide (0 ≤ nth ch i) && decide (nth ch i < n) && (decide (i = 0) || decide (nth ch (i - 1) < nth ch i))
def choiceB (ch : List Int) (n : Nat) : Bool := (List.range ch.length).all (choiceAt ch n)
def ChTo (ch : List Int) (n k : Nat) : Prop := ∀ i, i < k → choiceAt ch n i = true
theorem ChTo.zero {ch : List Int} {n : Nat} : ChTo ch n 0 := fun i h => absurd h (by omega)
theorem ChTo.step {ch : List Int} {n k : Nat} (h : ChTo ch n k) (hk : choiceAt ch n k = true) : ChTo ch n (k + 1) := fun i hi => by
  rcases Nat.lt_or_ge i k with h' | h'
  · exact h i h'
  · obtain rfl : i = k := by omega
    exact hk
theorem ChTo.full {ch : List Int} {n k : Nat} (h : ChTo ch n k) (hk : ch.length ≤ k) : choiceB ch n = true := by
  rw [choiceB, List.all_eq_true]
  intro i hi
  exact h i (by have := List.mem_range.1 hi; omega)
theorem ch_fail {ch : List Int} {n k : Nat} (hk : k < ch.length) (h : choiceAt ch n k = false) : choiceB ch n = false := by
  rw [choiceB, List.all_eq_false]
  exact ⟨k, List.mem_range.2 hk, by simp [h]⟩
theorem ChTo.of_all {ch : List Int} {n : Nat} (h : choiceB ch n = true) : ChTo ch n ch.length := fun i hi => List.all_eq_true.1 h i (List.mem_range.2 hi)
/-- The sum of the values at the first k chosen options. -/
def sumTo (vs ch : List Int) : Nat → Int
  | 0 => 0
  | k + 1 => sumTo vs ch k + nth vs (nth ch k).toNat
def sumOf (vs ch : List Int) : Int := sumTo vs ch ch.length
def meetB (ch : List Int) (r : Row) : Bool := decide (r.least ≤ sumOf r.coefs ch) && decide (sumOf r.coefs ch ≤ r.most)
def meetsB (P : Prog) (ch : List Int) : Bool := validB P && choiceB ch P.costs.length && P.rows.all (meetB ch)
def costOk (P : Prog) (ch : List Int) : Bool := validB P && choiceB ch P.costs.length
def costF (P : Prog) (ch : List Int) : Int := if costOk P ch then sumOf P.costs ch else 0
def blockedB (st : List Int) (r : Row) : Bool := spanB r.coefs st && (decide (r.most < (spanF r.coefs st).1) || decide ((spanF r.coefs st).2 < r.least) || decide (r.most < r.least))
/-- The first blocked row from number k on. -/
def firstFrom (st : List Int) (k : Nat) : List Row → Int
  | [] => -1
  | r :: rs => if blockedB st r then k else firstFrom st (k + 1) rs
def deadB (P : Prog) (st : List Int) : Bool := validB P && isStateB st P.costs.length
def deadF (P : Prog) (st : List Int) : Int := if deadB P st then firstFrom st 0 P.rows else -1

theorem rowB_parts {n : Nat} {r : Row} (h : rowB n r = true) : r.coefs.length = n ∧ validCoefsB r.coefs = true ∧ boundB r.least = true ∧ boundB r.most = true := by
  simp only [rowB, Bool.and_eq_true, decide_eq_true_eq] at h
  exact ⟨h.1.1.1, h.1.1.2, h.1.2, h.2⟩
theorem validB_parts {P : Prog} (h : validB P = true) : P.costs.length ≤ 12 ∧ P.rows.length ≤ 60 ∧ P.costs.all costB = true ∧ P.rows.all (rowB P.costs.length) = true := by
  simp only [validB, Bool.and_eq_true, decide_eq_true_eq] at h
  exact ⟨h.1.1.1, h.1.1.2, h.1.2, h.2⟩
theorem sumTo_bd {vs ch : List Int} {n : Nat} (hv : ∀ i, i < n → -10000 ≤ nth vs i ∧ nth vs i ≤ 10000) (k : Nat) (hc : ∀ i, i < k → 0 ≤ nth ch i ∧ nth ch i < n) : -(10000 * k) ≤ sumTo vs ch k ∧ sumTo vs ch k ≤ 10000 * k := by
  induction k with
  | zero => simp [sumTo]
  | succ k ih =>
    have ih := ih fun i hi => hc i (by omega)
    have h1 := hc k (by omega)
    have h2 := hv (nth ch k).toNat (by omega)
    rw [sumTo]
    omega
end Go.Proofs.Ytipelkbdonfkoaa
