/- Several texts in one: GTape, GTape2, Pl08, GL08a, GL08b. -/
import Derived.Test.YtjbmdaoppiinbaaTab
import Derived.Test.YtjbmdaoppiinbaaMA
/- The tape of numbers by the interpreter: contracts of New, Raw, Cut, Next, Range, One, Pick, Wild. -/
section
namespace Go.Proofs.Ytjbmdaoppiinbaa
set_option linter.unusedVariables false
set_option linter.unusedSimpArgs false
set_option linter.unnecessarySimpa false
set_option linter.unusedSectionVars false
open Go.RowKit

def encI (x : Int) : List AV := [.int .i64 x]
def ints (xs : List Int) : AV := .lst 1 (xs.map encI)
abbrev TT : Nat := 0
end Go.Proofs.Ytjbmdaoppiinbaa
end

/- The tape of numbers by the interpreter: Cut, Next, Range, One, Pick, Wild. -/
section
namespace Go.Proofs.Ytjbmdaoppiinbaa
set_option linter.unusedVariables false
set_option linter.unusedSimpArgs false
set_option linter.unnecessarySimpa false
set_option linter.unusedSectionVars false
open Go.RowKit
set_option maxRecDepth 10000

end Go.Proofs.Ytjbmdaoppiinbaa
end

/- Layer 8 in plain Lean: what Valid, Meets, Cost, Span, Dead come to, and what is true of them. No program in sight. (Put together by wip/mkpl.py.) -/
section
namespace Go.Proofs.Ytjbmdaoppiinbaa
set_option linter.unusedVariables false
set_option linter.unusedSimpArgs false
set_option linter.unnecessarySimpa false
set_option linter.unusedSectionVars false
structure Row where
  coefs : List Int
  least : Int
  most : Int
structure Prog where
  costs : List Int
  rows : List Row
/-- The k-th row. -/
def rowAt (rs : List Row) (k : Nat) : Row := rs.getD k ⟨[], 0, 0⟩
theorem rowAt_some {rs : List Row} {k : Nat} (h : k < rs.length) : rs[k]? = some (rowAt rs k) := by
  simp [rowAt, List.getD_eq_getElem?_getD, List.getElem?_eq_getElem h]
def AllTo (p : Int → Bool) (xs : List Int) (k : Nat) : Prop := ∀ i, i < k → p (nth xs i) = true
section
variable {p : Int → Bool} {xs : List Int} {k : Nat}
theorem AllTo.zero : AllTo p xs 0 := fun i h => absurd h (by omega)
theorem AllTo.step (h : AllTo p xs k) (hk : p (nth xs k) = true) : AllTo p xs (k + 1) := fun i hi => by
  rcases Nat.lt_or_ge i k with h' | h'
  · exact h i h'
  · obtain rfl : i = k := by omega
    exact hk
theorem nth_mem (h : k < xs.length) : nth xs k ∈ xs := List.mem_of_getElem? (nth_some h)
theorem mem_nth {x : Int} (h : x ∈ xs) : ∃ i, i < xs.length ∧ nth xs i = x := by
  obtain ⟨i, hi, rfl⟩ := List.mem_iff_getElem.1 h
  have := nth_some hi
  rw [List.getElem?_eq_getElem hi] at this
  exact ⟨i, hi, (Option.some.inj this).symm⟩
theorem AllTo.full (h : AllTo p xs k) (hk : xs.length ≤ k) : xs.all p = true := by
  rw [List.all_eq_true]
  intro x hx
  obtain ⟨i, hi, rfl⟩ := mem_nth hx
  exact h i (by omega)
theorem all_fail (hk : k < xs.length) (h : p (nth xs k) = false) : xs.all p = false := by
  rw [List.all_eq_false]
  exact ⟨_, nth_mem hk, by simp [h]⟩
end

def coefB (c : Int) : Bool := decide (-10000 ≤ c) && decide (c ≤ 10000)
def costB (c : Int) : Bool := decide (0 ≤ c) && decide (c ≤ 10000)
def boundB (c : Int) : Bool := decide (-1000000 ≤ c) && decide (c ≤ 1000000)
def triB (c : Int) : Bool := decide (-1 ≤ c) && decide (c ≤ 1)
def validCoefsB (cs : List Int) : Bool := cs.all coefB
def isStateB (st : List Int) (n : Nat) : Bool := decide (st.length = n) && decide (n ≤ 12) && st.all triB

/-- The least and the greatest sum over the first k options. -/
def spanTo (cs st : List Int) : Nat → Int × Int
  | 0 => (0, 0)
  | k + 1 => if nth st k = 1 then ((spanTo cs st k).1 + nth cs k, (spanTo cs st k).2 + nth cs k)
    else if nth st k = -1 then ((spanTo cs st k).1 + min (nth cs k) 0, (spanTo cs st k).2 + max (nth cs k) 0) else spanTo cs st k
def spanB (cs st : List Int) : Bool := isStateB st cs.length && validCoefsB cs
def spanF (cs st : List Int) : Int × Int := if spanB cs st then spanTo cs st cs.length else (0, 0)
theorem coefB_iff {c : Int} : coefB c = true ↔ -10000 ≤ c ∧ c ≤ 10000 := by simp [coefB]
theorem triB_iff {c : Int} : triB c = true ↔ -1 ≤ c ∧ c ≤ 1 := by simp [triB]
theorem costB_iff {c : Int} : costB c = true ↔ 0 ≤ c ∧ c ≤ 10000 := by simp [costB]
theorem boundB_iff {c : Int} : boundB c = true ↔ -1000000 ≤ c ∧ c ≤ 1000000 := by simp [boundB]
theorem spanTo_bd {cs st : List Int} (k : Nat) (h : AllTo coefB cs k) : -(10000 * k) ≤ (spanTo cs st k).1 ∧ (spanTo cs st k).1 ≤ 10000 * k ∧ -(10000 * k) ≤ (spanTo cs st k).2 ∧ (spanTo cs st k).2 ≤ 10000 * k := by
  induction k with
  | zero => simp [spanTo]
  | succ k ih =>
    have ih := ih fun i hi => h i (by omega)
    have hc := coefB_iff.1 (h k (by omega))
    rw [spanTo]
    split
    · simp only; omega
    · split
      · simp only; omega
      · omega
theorem AllTo.of_all {p : Int → Bool} {xs : List Int} (h : xs.all p = true) : AllTo p xs xs.length := fun i hi => List.all_eq_true.1 h _ (nth_mem hi)

def AllR (p : Row → Bool) (rs : List Row) (k : Nat) : Prop := ∀ i, i < k → p (rowAt rs i) = true
section
variable {p : Row → Bool} {rs : List Row} {k : Nat}
theorem AllR.zero : AllR p rs 0 := fun i h => absurd h (by omega)
theorem AllR.step (h : AllR p rs k) (hk : p (rowAt rs k) = true) : AllR p rs (k + 1) := fun i hi => by
  rcases Nat.lt_or_ge i k with h' | h'
  · exact h i h'
  · obtain rfl : i = k := by omega
    exact hk
theorem rowAt_mem (h : k < rs.length) : rowAt rs k ∈ rs := List.mem_of_getElem? (rowAt_some h)
theorem mem_rowAt {x : Row} (h : x ∈ rs) : ∃ i, i < rs.length ∧ rowAt rs i = x := by
  obtain ⟨i, hi, rfl⟩ := List.mem_iff_getElem.1 h
  have := rowAt_some hi
  rw [List.getElem?_eq_getElem hi] at this
  exact ⟨i, hi, (Option.some.inj this).symm⟩
theorem AllR.full (h : AllR p rs k) (hk : rs.length ≤ k) : rs.all p = true := by
  rw [List.all_eq_true]
  intro x hx
  obtain ⟨i, hi, rfl⟩ := mem_rowAt hx
  exact h i (by omega)
theorem allR_fail (hk : k < rs.length) (h : p (rowAt rs k) = false) : rs.all p = false := by
  rw [List.all_eq_false]
  exact ⟨_, rowAt_mem hk, by simp [h]⟩
theorem AllR.of_all (h : rs.all p = true) : AllR p rs rs.length := fun i hi => List.all_eq_true.1 h _ (rowAt_mem hi)
end

def rowB (n : Nat) (r : Row) : Bool := decide (r.coefs.length = n) && validCoefsB r.coefs && boundB r.least && boundB r.most
def validB (P : Prog) : Bool := decide (P.costs.length ≤ 12) && decide (P.rows.length ≤ 60) && P.costs.all costB && P.rows.all (rowB P.costs.length)
def choiceAt (ch : List Int) (n : Nat) (i : Nat) : Bool := decide (0 ≤ nth ch i) && decide (nth ch i < n) && (decide (i = 0) || decide (nth ch (i - 1) < nth ch i))
def choiceB (ch : List Int) (n : Nat) : Bool := (List.range ch.length).all (choiceAt ch n)
def ChTo (ch : List Int) (n k : Nat) : Prop := ∀ i, i < k → choiceAt ch n i = true
theorem ChTo.zero {ch : List Int} {n : Nat} : ChTo ch n 0 := fun i h => absurd h (by omega)
theorem ChTo.step {ch : List Int} {n k : Nat} (h : ChTo ch n k) (hk : choiceAt ch n k = true) : ChTo ch n (k + 1) := fun i hi => by
  rcases Nat.lt_or_ge i k with h' | h'
  · exact h i h'
  · obtain rfl : i = k := by omega
    exact hk
theorem ChTo.full {ch : List Int} {n k : Nat} (h : ChTo ch n k) (hk : ch.length ≤ k) : choiceB ch n = true := by
  rw [choiceB, List.all_eq_true]
  intro i hi
  exact h i (by have := List.mem_range.1 hi; omega)
theorem ch_fail {ch : List Int} {n k : Nat} (hk : k < ch.length) (h : choiceAt ch n k = false) : choiceB ch n = false := by
  rw [choiceB, List.all_eq_false]
  exact ⟨k, List.mem_range.2 hk, by simp [h]⟩
theorem ChTo.of_all {ch : List Int} {n : Nat} (h : choiceB ch n = true) : ChTo ch n ch.length := fun i hi => List.all_eq_true.1 h i (List.mem_range.2 hi)
/-- The sum of the values at the first k chosen options. -/
def sumTo (vs ch : List Int) : Nat → Int
  | 0 => 0
  | k + 1 => sumTo vs ch k + nth vs (nth ch k).toNat
def sumOf (vs ch : List Int) : Int := sumTo vs ch ch.length
def meetB (ch : List Int) (r : Row) : Bool := decide (r.least ≤ sumOf r.coefs ch) && decide (sumOf r.coefs ch ≤ r.most)
def meetsB (P : Prog) (ch : List Int) : Bool := validB P && choiceB ch P.costs.length && P.rows.all (meetB ch)
def costOk (P : Prog) (ch : List Int) : Bool := validB P && choiceB ch P.costs.length
def costF (P : Prog) (ch : List Int) : Int := if costOk P ch then sumOf P.costs ch else 0
def blockedB (st : List Int) (r : Row) : Bool := spanB r.coefs st && (decide (r.most < (spanF r.coefs st).1) || decide ((spanF r.coefs st).2 < r.least) || decide (r.most < r.least))
/-- The first blocked row from number k on. -/
def firstFrom (st : List Int) (k : Nat) : List Row → Int
  | [] => -1
  | r :: rs => if blockedB st r then k else firstFrom st (k + 1) rs
def deadB (P : Prog) (st : List Int) : Bool := validB P && isStateB st P.costs.length
def deadF (P : Prog) (st : List Int) : Int := if deadB P st then firstFrom st 0 P.rows else -1

theorem rowB_parts {n : Nat} {r : Row} (h : rowB n r = true) : r.coefs.length = n ∧ validCoefsB r.coefs = true ∧ boundB r.least = true ∧ boundB r.most = true := by
  simp only [rowB, Bool.and_eq_true, decide_eq_true_eq] at h
  exact ⟨h.1.1.1, h.1.1.2, h.1.2, h.2⟩
theorem validB_parts {P : Prog} (h : validB P = true) : P.costs.length ≤ 12 ∧ P.rows.length ≤ 60 ∧ P.costs.all costB = true ∧ P.rows.all (rowB P.costs.length) = true := by
  simp only [validB, Bool.and_eq_true, decide_eq_true_eq] at h
  exact ⟨h.1.1.1, h.1.1.2, h.1.2, h.2⟩
theorem sumTo_bd {vs ch : List Int} {n : Nat} (hv : ∀ i, i < n → -10000 ≤ nth vs i ∧ nth vs i ≤ 10000) (k : Nat) (hc : ∀ i, i < k → 0 ≤ nth ch i ∧ nth ch i < n) : -(10000 * k) ≤ sumTo vs ch k ∧ sumTo vs ch k ≤ 10000 * k := by
  induction k with
  | zero => simp [sumTo]
  | succ k ih =>
    have ih := ih fun i hi => hc i (by omega)
    have h1 := hc k (by omega)
    have h2 := hv (nth ch k).toNat (by omega)
    rw [sumTo]
    omega
theorem validB_big {P : Prog} (h : 12 < P.costs.length ∨ 60 < P.rows.length) : validB P = false := by
  rcases h with h | h
  · have : ¬ P.costs.length ≤ 12 := by omega
    simp [validB, this]
  · have : ¬ P.rows.length ≤ 60 := by omega
    simp [validB, this]
theorem validB_cost {P : Prog} (h : P.costs.all costB = false) : validB P = false := by simp [validB, h]
theorem validB_row {P : Prog} {k : Nat} (hk : k < P.rows.length) (h : rowB P.costs.length (rowAt P.rows k) = false) : validB P = false := by simp [validB, allR_fail hk h]

/-- SUMS -/
theorem choice_in {ch : List Int} {n i : Nat} (h : choiceB ch n = true) (hi : i < ch.length) : 0 ≤ nth ch i ∧ nth ch i < n := by
  have := ChTo.of_all h i hi
  simp only [choiceAt, Bool.and_eq_true, decide_eq_true_eq] at this
  exact this.1
theorem row_in {rows : List Row} {n j : Nat} (h : rows.all (rowB n) = true) (hj : j < rows.length) : (rowAt rows j).coefs.length = n ∧ ∀ i, i < n → -10000 ≤ nth (rowAt rows j).coefs i ∧ nth (rowAt rows j).coefs i ≤ 10000 := by
  obtain ⟨h1, h2, -, -⟩ := rowB_parts (AllR.of_all h j hj)
  exact ⟨h1, fun i hi => coefB_iff.1 (AllTo.of_all h2 i (by omega))⟩
theorem firstFrom_at {st : List Int} : ∀ (rows : List Row) (k j : Nat), j < rows.length → (∀ i, i < j → blockedB st (rowAt rows i) = false) → blockedB st (rowAt rows j) = true → firstFrom st k rows = ((k + j : Nat) : Int)
  | [], _, _, h, _, _ => absurd h (by simp)
  | r :: rs, k, 0, _, _, hb => by
    have : blockedB st r = true := hb
    simp [firstFrom, this]
  | r :: rs, k, j + 1, hl, hn, hb => by
    have h0 : blockedB st r = false := hn 0 (by omega)
    have ih := firstFrom_at rs (k + 1) j (by simpa using hl) (fun i hi => hn (i + 1) (by omega)) hb
    rw [firstFrom, h0, if_neg (by simp), ih]
    congr 1
    omega
theorem firstFrom_none {st : List Int} : ∀ (rows : List Row) (k : Nat), (∀ i, i < rows.length → blockedB st (rowAt rows i) = false) → firstFrom st k rows = -1
  | [], _, _ => rfl
  | r :: rs, k, hn => by
    have h0 : blockedB st r = false := hn 0 (by simp)
    rw [firstFrom, h0, if_neg (by simp)]
    exact firstFrom_none rs (k + 1) fun i hi => hn (i + 1) (by simpa using hi)
theorem spanB_of {P : Prog} {st : List Int} {j : Nat} (h : validB P = true) (hs : isStateB st P.costs.length = true) (hj : j < P.rows.length) : spanB (rowAt P.rows j).coefs st = true := by
  obtain ⟨h1, h2, -, -⟩ := rowB_parts (AllR.of_all (validB_parts h).2.2.2 j hj)
  rw [spanB, h1, hs, h2]
  rfl
theorem firstFrom_range {st : List Int} : ∀ (rows : List Row) (k : Nat), firstFrom st k rows = -1 ∨ (k : Int) ≤ firstFrom st k rows
  | [], _ => .inl rfl
  | r :: rs, k => by
    rw [firstFrom]
    split
    · exact .inr (Int.le_refl _)
    · rcases firstFrom_range (st := st) rs (k + 1) with h | h
      · exact .inl h
      · exact .inr (by omega)
theorem dead_iff {P : Prog} {st : List Int} : 0 ≤ deadF P st ↔ deadB P st = true ∧ ∃ j, j < P.rows.length ∧ blockedB st (rowAt P.rows j) = true := by
  unfold deadF
  cases hd : deadB P st with
  | false => simp
  | true =>
    simp only [if_true, true_and]
    constructor
    · intro h
      rcases Classical.em (∃ j, j < P.rows.length ∧ blockedB st (rowAt P.rows j) = true) with he | he
      · exact he
      · rw [firstFrom_none P.rows 0 fun i hi => by
          cases hb : blockedB st (rowAt P.rows i) with
          | false => rfl
          | true => exact absurd ⟨i, hi, hb⟩ he] at h
        omega
    · rintro ⟨j, hj, hb⟩
      rcases firstFrom_range (st := st) P.rows 0 with h | h
      · exfalso
        -- the least blocked row
        have : ∃ i, i < P.rows.length ∧ blockedB st (rowAt P.rows i) = true ∧ ∀ i', i' < i → blockedB st (rowAt P.rows i') = false := by
          induction j using Nat.strongRecOn with
          | ind j ih =>
            rcases Classical.em (∃ i', i' < j ∧ blockedB st (rowAt P.rows i') = true) with he | he
            · obtain ⟨i', h1, h2⟩ := he
              exact ih i' h1 (by omega) h2
            · exact ⟨j, hj, hb, fun i' hi' => by
                cases hbb : blockedB st (rowAt P.rows i') with
                | false => rfl
                | true => exact absurd ⟨i', hi', hbb⟩ he⟩
        obtain ⟨i, h1, h2, h3⟩ := this
        rw [firstFrom_at P.rows 0 i h1 h3 h2] at h
        omega
      · omega
theorem dead_neg {P : Prog} {st : List Int} : deadF P st = -1 ∨ 0 ≤ deadF P st := by
  unfold deadF
  split
  · rcases firstFrom_range (st := st) P.rows 0 with h | h
    · exact .inl h
    · exact .inr (by omega)
  · exact .inl rfl
theorem nth_set {xs : List Int} {k i : Nat} {y : Int} : nth (xs.set k y) i = if i = k ∧ k < xs.length then y else nth xs i := by
  simp only [nth, List.getD_eq_getElem?_getD, List.getElem?_set]
  split
  · next h =>
    subst h
    split
    · next h => simp [h]
    · next h => simp [h]
  · next h => rw [if_neg (by omega)]
/-- The options below k whose bit is set. -/
def subTo (b : Nat) : Nat → List Int
  | 0 => []
  | k + 1 => if b.testBit k then subTo b k ++ [(k : Int)] else subTo b k
def bitSum (cs : List Int) (b : Nat) : Nat → Int
  | 0 => 0
  | k + 1 => bitSum cs b k + if b.testBit k then nth cs k else 0
theorem nth_left {xs ys : List Int} {i : Nat} (h : i < xs.length) : nth (xs ++ ys) i = nth xs i := by
  simp [nth, List.getD_eq_getElem?_getD, List.getElem?_append_left h]
theorem nth_last {xs : List Int} {y : Int} : nth (xs ++ [y]) xs.length = y := by
  simp [nth, List.getD_eq_getElem?_getD]
theorem sumTo_left {vs xs ys : List Int} {k : Nat} (h : k ≤ xs.length) : sumTo vs (xs ++ ys) k = sumTo vs xs k := by
  induction k with
  | zero => rfl
  | succ k ih => rw [sumTo, sumTo, ih (by omega), nth_left (by omega)]
theorem sumOf_snoc (vs xs : List Int) (y : Int) : sumOf vs (xs ++ [y]) = sumOf vs xs + nth vs y.toNat := by
  rw [sumOf, List.length_append, List.length_singleton, sumTo, sumTo_left (Nat.le_refl _), nth_last, sumOf]
theorem sumOf_sub (cs : List Int) (b k : Nat) : sumOf cs (subTo b k) = bitSum cs b k := by
  induction k with
  | zero => rfl
  | succ k ih =>
    rw [subTo, bitSum]
    split
    · rw [sumOf_snoc, ih]; simp
    · rw [ih]; simp
theorem mem_sub {b k : Nat} {x : Int} : x ∈ subTo b k ↔ ∃ i : Nat, i < k ∧ x = i ∧ b.testBit i = true := by
  induction k with
  | zero => simp [subTo]
  | succ k ih =>
    rw [subTo]
    split
    · next h =>
      rw [List.mem_append, ih, List.mem_singleton]
      constructor
      · rintro (⟨i, h1, h2, h3⟩ | h1)
        · exact ⟨i, by omega, h2, h3⟩
        · exact ⟨k, by omega, h1, h⟩
      · rintro ⟨i, h1, h2, h3⟩
        rcases Nat.lt_or_ge i k with h4 | h4
        · exact .inl ⟨i, h4, h2, h3⟩
        · obtain rfl : i = k := by omega
          exact .inr h2
    · next h =>
      rw [ih]
      constructor
      · rintro ⟨i, h1, h2, h3⟩
        exact ⟨i, by omega, h2, h3⟩
      · rintro ⟨i, h1, h2, h3⟩
        refine ⟨i, ?_, h2, h3⟩
        rcases Nat.lt_or_ge i k with h4 | h4
        · exact h4
        · obtain rfl : i = k := by omega
          exact absurd h3 h
theorem sub_asc (b k : Nat) : (subTo b k).Pairwise (· < ·) := by
  induction k with
  | zero => simp [subTo]
  | succ k ih =>
    rw [subTo]
    split
    · refine List.pairwise_append.2 ⟨ih, by simp, fun a ha c hc => ?_⟩
      obtain ⟨i, h1, rfl, -⟩ := mem_sub.1 ha
      rw [List.mem_singleton.1 hc]
      omega
    · exact ih
/-- An ascending list of numbers below n is a choice. -/
theorem choice_of_asc {ch : List Int} {n : Nat} (h1 : ch.Pairwise (· < ·)) (h2 : ∀ x ∈ ch, 0 ≤ x ∧ x < n) : choiceB ch n = true := by
  refine ChTo.full (k := ch.length) (fun i hi => ?_) (Nat.le_refl _)
  have hm := h2 _ (nth_mem hi)
  simp only [choiceAt, Bool.and_eq_true, Bool.or_eq_true, decide_eq_true_eq]
  refine ⟨hm, ?_⟩
  rcases Nat.eq_zero_or_pos i with h | h
  · exact .inl h
  · refine .inr ?_
    have e1 := nth_some (xs := ch) (k := i - 1) (by omega)
    have e2 := nth_some hi
    rw [List.getElem?_eq_getElem (by omega)] at e1 e2
    injection e1 with e1
    injection e2 with e2
    rw [← e1, ← e2]
    exact List.pairwise_iff_getElem.1 h1 (i - 1) i (by omega) hi (by omega)
theorem sub_choice (b n : Nat) : choiceB (subTo b n) n = true :=
  choice_of_asc (sub_asc b n) fun x hx => by obtain ⟨i, h1, rfl, -⟩ := mem_sub.1 hx; omega
/-- The bits b are a completion of the state. -/
def Compl (st : List Int) (b : Nat) : Prop := ∀ i, i < st.length → (nth st i = 1 → b.testBit i = true) ∧ (nth st i = 0 → b.testBit i = false)
theorem span_holds {cs st : List Int} {b : Nat} (hc : Compl st b) (ht : AllTo triB st st.length) (k : Nat) (hk : k ≤ st.length) : (spanTo cs st k).1 ≤ bitSum cs b k ∧ bitSum cs b k ≤ (spanTo cs st k).2 := by
  induction k with
  | zero => simp [spanTo, bitSum]
  | succ k ih =>
    have ih := ih (by omega)
    have h1 := hc k (by omega)
    have h2 := triB_iff.1 (ht k (by omega))
    rw [spanTo, bitSum]
    by_cases e1 : nth st k = 1
    · rw [if_pos e1, h1.1 e1]; simp only [if_true]; omega
    · rw [if_neg e1]
      by_cases e2 : nth st k = -1
      · rw [if_pos e2]
        simp only
        split <;> omega
      · rw [if_neg e2, h1.2 (by omega)]
        simp only [Bool.false_eq_true, if_false]
        omega
theorem exists_bits (f : Nat → Bool) (n : Nat) : ∃ b, b < 2 ^ n ∧ ∀ i, i < n → b.testBit i = f i := by
  induction n with
  | zero => exact ⟨0, by simp, fun i hi => absurd hi (by omega)⟩
  | succ n ih =>
    obtain ⟨b, hb, hf⟩ := ih
    cases hn : f n with
    | false =>
      refine ⟨b, by rw [Nat.pow_succ]; omega, fun i hi => ?_⟩
      rcases Nat.lt_or_ge i n with h | h
      · exact hf i h
      · obtain rfl : i = n := by omega
        rw [hn]
        exact Nat.testBit_lt_two_pow hb
    | true =>
      refine ⟨2 ^ n + b, by rw [Nat.pow_succ]; omega, fun i hi => ?_⟩
      rcases Nat.lt_or_ge i n with h | h
      · rw [Nat.testBit_two_pow_add_gt h]; exact hf i h
      · obtain rfl : i = n := by omega
        rw [Nat.testBit_two_pow_add_eq, Nat.testBit_lt_two_pow hb, hn]
        rfl
theorem span_low {cs st : List Int} (ht : AllTo triB st st.length) : ∃ b, b < 2 ^ st.length ∧ Compl st b ∧ bitSum cs b st.length = (spanTo cs st st.length).1 := by
  obtain ⟨b, hb, hf⟩ := exists_bits (fun i => decide (nth st i = 1) || (decide (nth st i = -1) && decide (nth cs i < 0))) st.length
  refine ⟨b, hb, fun i hi => ⟨fun h => by rw [hf i hi]; simp [h], fun h => by rw [hf i hi]; simp [h]⟩, ?_⟩
  have : ∀ k, k ≤ st.length → bitSum cs b k = (spanTo cs st k).1 := by
    intro k
    induction k with
    | zero => intro _; rfl
    | succ k ih =>
      intro hk
      have h2 := triB_iff.1 (ht k (by omega))
      rw [spanTo, bitSum, ih (by omega), hf k (by omega)]
      by_cases e1 : nth st k = 1
      · simp [e1]
      · rw [if_neg e1]
        by_cases e2 : nth st k = -1
        · rw [if_pos e2]
          by_cases e3 : nth cs k < 0
          · simp [e2, e3]; omega
          · simp [e2, e3]; omega
        · rw [if_neg e2]; simp [e1, e2]
  exact this _ (Nat.le_refl _)
theorem span_high {cs st : List Int} (ht : AllTo triB st st.length) : ∃ b, b < 2 ^ st.length ∧ Compl st b ∧ bitSum cs b st.length = (spanTo cs st st.length).2 := by
  obtain ⟨b, hb, hf⟩ := exists_bits (fun i => decide (nth st i = 1) || (decide (nth st i = -1) && decide (0 < nth cs i))) st.length
  refine ⟨b, hb, fun i hi => ⟨fun h => by rw [hf i hi]; simp [h], fun h => by rw [hf i hi]; simp [h]⟩, ?_⟩
  have : ∀ k, k ≤ st.length → bitSum cs b k = (spanTo cs st k).2 := by
    intro k
    induction k with
    | zero => intro _; rfl
    | succ k ih =>
      intro hk
      have h2 := triB_iff.1 (ht k (by omega))
      rw [spanTo, bitSum, ih (by omega), hf k (by omega)]
      by_cases e1 : nth st k = 1
      · simp [e1]
      · rw [if_neg e1]
        by_cases e2 : nth st k = -1
        · rw [if_pos e2]
          by_cases e3 : 0 < nth cs k
          · simp [e2, e3]; omega
          · simp [e2, e3]; omega
        · rw [if_neg e2]; simp [e1, e2]
  exact this _ (Nat.le_refl _)
def hasB (xs : List Int) (x : Int) : Bool := xs.any (· == x)
theorem hasB_iff {xs : List Int} {x : Int} : hasB xs x = true ↔ x ∈ xs := by simp [hasB]
/-- A choice is a completion of a state, as the law's own function has it. -/
def completeB (st ch : List Int) : Bool := (List.range st.length).all fun i => !((decide (nth st i = 1) && !hasB ch i) || (decide (nth st i = 0) && hasB ch i))
def ComTo (st ch : List Int) (k : Nat) : Prop := ∀ i, i < k → (nth st i = 1 → hasB ch i = true) ∧ (nth st i = 0 → hasB ch i = false)
theorem com_iff {st ch : List Int} : completeB st ch = true ↔ ComTo st ch st.length := by
  simp only [completeB, List.all_eq_true, List.mem_range, ComTo]
  refine forall_congr' fun i => forall_congr' fun hi => ?_
  cases hasB ch i <;> simp
theorem com_sub {st : List Int} {b : Nat} : completeB st (subTo b st.length) = true ↔ Compl st b := by
  rw [com_iff]
  have hh : ∀ i, i < st.length → hasB (subTo b st.length) (i : Int) = b.testBit i := fun i hi => by
    rw [Bool.eq_iff_iff, hasB_iff, mem_sub]
    constructor
    · rintro ⟨j, _, h2, h3⟩
      obtain rfl : i = j := by omega
      exact h3
    · exact fun h => ⟨i, hi, rfl, h⟩
  exact ⟨fun h i hi => by have := h i hi; rw [hh i hi] at this; exact this, fun h i hi => by rw [hh i hi]; exact h i hi⟩

/-- l and m: the least and the greatest sum of the completions below t. -/
structure MM (cs st : List Int) (n t : Nat) (l m : Int) : Prop where
  all : ∀ b, b < t → Compl st b → l ≤ bitSum cs b n ∧ bitSum cs b n ≤ m
  low : l = 1073741824 ∨ ∃ b, b < t ∧ Compl st b ∧ l = bitSum cs b n
  high : m = -1073741824 ∨ ∃ b, b < t ∧ Compl st b ∧ m = bitSum cs b n
theorem MM.zero {cs st : List Int} {n : Nat} : MM cs st n 0 1073741824 (-1073741824) := ⟨fun b h => absurd h (by omega), .inl rfl, .inl rfl⟩
theorem MM.take {cs st : List Int} {n t : Nat} {l m l' m' : Int} (h : MM cs st n t l m) (hc : Compl st t) (hl : l' = min l (bitSum cs t n)) (hm : m' = max m (bitSum cs t n)) : MM cs st n (t + 1) l' m' := by
  refine ⟨fun b hb hcb => ?_, ?_, ?_⟩
  · rcases Nat.lt_or_ge b t with hlt | hge
    · have := h.all b hlt hcb; omega
    · obtain rfl : b = t := by omega
      omega
  · rcases Int.lt_or_le (bitSum cs t n) l with h1 | h1
    · exact .inr ⟨t, by omega, hc, by omega⟩
    · rcases h.low with h2 | ⟨b, h2, h3, h4⟩
      · exact .inl (by omega)
      · exact .inr ⟨b, by omega, h3, by omega⟩
  · rcases Int.lt_or_le m (bitSum cs t n) with h1 | h1
    · exact .inr ⟨t, by omega, hc, by omega⟩
    · rcases h.high with h2 | ⟨b, h2, h3, h4⟩
      · exact .inl (by omega)
      · exact .inr ⟨b, by omega, h3, by omega⟩
theorem MM.done {cs st : List Int} {t : Nat} {l m : Int} (h : MM cs st st.length t l m) (ht : t = 2 ^ st.length) (hst : AllTo triB st st.length) (hb : -(10000 * 12) ≤ (spanTo cs st st.length).1 ∧ (spanTo cs st st.length).1 ≤ 10000 * 12 ∧ -(10000 * 12) ≤ (spanTo cs st st.length).2 ∧ (spanTo cs st st.length).2 ≤ 10000 * 12) :
    l = (spanTo cs st st.length).1 ∧ m = (spanTo cs st st.length).2 := by
  obtain ⟨b1, h1, c1, e1⟩ := span_low (cs := cs) hst
  obtain ⟨b2, h2, c2, e2⟩ := span_high (cs := cs) hst
  have a1 := h.all b1 (by omega) c1
  have a2 := h.all b2 (by omega) c2
  constructor
  · rcases h.low with h3 | ⟨b, h3, h4, h5⟩
    · omega
    · have := span_holds (cs := cs) h4 hst st.length (Nat.le_refl _); omega
  · rcases h.high with h3 | ⟨b, h3, h4, h5⟩
    · omega
    · have := span_holds (cs := cs) h4 hst st.length (Nat.le_refl _); omega
/-- A dead state has no completion that meets. -/
theorem dead_not {P : Prog} {st : List Int} {b : Nat} (hl : st.length = P.costs.length) (hst : AllTo triB st st.length) (hc : Compl st b) (hd : 0 ≤ deadF P st) : meetsB P (subTo b P.costs.length) = false := by
  obtain ⟨h1, j, hj, hb⟩ := dead_iff.1 hd
  cases hm : meetsB P (subTo b P.costs.length) with
  | false => rfl
  | true =>
    exfalso
    simp only [meetsB, Bool.and_eq_true] at hm
    have hmr := AllR.of_all hm.2 j hj
    simp only [deadB, Bool.and_eq_true] at h1
    have hok := spanB_of h1.1 h1.2 hj
    have hlen := (row_in (validB_parts h1.1).2.2.2 hj).1
    have hs := span_holds (cs := (rowAt P.rows j).coefs) hc hst st.length (Nat.le_refl _)
    simp only [meetB, Bool.and_eq_true, decide_eq_true_eq, sumOf_sub] at hmr
    simp only [blockedB, spanF, hok, if_true, Bool.true_and, Bool.or_eq_true, decide_eq_true_eq, hlen, ← hl] at hb
    rw [← hl] at hmr
    omega
/-- Nothing undecided: the span is one number. -/
theorem span_one {cs st : List Int} (hf : hasB st (-1) = false) (k : Nat) (hk : k ≤ st.length) : (spanTo cs st k).1 = (spanTo cs st k).2 := by
  induction k with
  | zero => rfl
  | succ k ih =>
    have hne : nth st k ≠ -1 := fun h => by
      have : hasB st (-1) = true := hasB_iff.2 (h ▸ nth_mem (by omega))
      rw [hf] at this; cases this
    rw [spanTo]
    by_cases e1 : nth st k = 1
    · rw [if_pos e1]; simp only; rw [ih (by omega)]
    · rw [if_neg e1, if_neg hne]; exact ih (by omega)
theorem decided_iff {P : Prog} {st : List Int} {b : Nat} (hl : st.length = P.costs.length) (hst : AllTo triB st st.length) (hv : validB P = true) (hs : isStateB st P.costs.length = true) (hf : hasB st (-1) = false) (hc : Compl st b) :
    deadF P st < 0 ↔ meetsB P (subTo b P.costs.length) = true := by
  constructor
  · intro hd
    have hnb : ∀ j, j < P.rows.length → blockedB st (rowAt P.rows j) = false := fun j hj => by
      cases hb : blockedB st (rowAt P.rows j) with
      | false => rfl
      | true => exact absurd (dead_iff.2 ⟨by simp [deadB, hv, hs], j, hj, hb⟩) (by omega)
    simp only [meetsB, hv, sub_choice, Bool.true_and]
    refine AllR.full (k := P.rows.length) (fun j hj => ?_) (Nat.le_refl _)
    have hb := hnb j hj
    have hok := spanB_of hv hs hj
    have hlen := (row_in (validB_parts hv).2.2.2 hj).1
    have h1 := span_holds (cs := (rowAt P.rows j).coefs) hc hst st.length (Nat.le_refl _)
    have h2 := span_one (cs := (rowAt P.rows j).coefs) hf st.length (Nat.le_refl _)
    simp only [blockedB, spanF, hok, if_true, Bool.true_and, Bool.or_eq_false_iff, decide_eq_false_iff_not, hlen, ← hl] at hb
    simp only [meetB, Bool.and_eq_true, decide_eq_true_eq, sumOf_sub]
    rw [← hl]
    omega
  · intro hm
    rcases dead_neg (P := P) (st := st) with h | h
    · omega
    · rw [dead_not hl hst hc h] at hm
      cases hm
end Go.Proofs.Ytjbmdaoppiinbaa
end

/- Layer 8 by the interpreter: contracts of the program's functions. -/
section
namespace Go.Proofs.Ytjbmdaoppiinbaa
set_option linter.unusedVariables false
set_option linter.unusedSimpArgs false
set_option linter.unnecessarySimpa false
set_option linter.unusedSectionVars false
set_option maxRecDepth 10000

def encRow (r : Row) : List AV := [ints r.coefs, .int .i64 r.least, .int .i64 r.most]
def rowsV (rs : List Row) : AV := .lst 3 (rs.map encRow)
def progV (P : Prog) : AV := .agg [ints P.costs, rowsV P.rows]
theorem nth_eq {xs : List Int} {k : Nat} {x : Int} (h : xs[k]? = some x) : nth xs k = x := by simp [nth, List.getD_eq_getElem?_getD, h]
theorem rowAt_eq {rs : List Row} {k : Nat} {r : Row} (h : rs[k]? = some r) : rowAt rs k = r := by simp [rowAt, List.getD_eq_getElem?_getD, h]
theorem bool_eq {a b : Bool} (h : a = b) : (AV.bool a) = .bool b := by rw [h]
theorem int_eq {a b : Int} (h : a = b) : (AV.int .i64 a) = .int .i64 b := by rw [h]

theorem validCoefs_ok (xs : List Int) (hl : xs.length ≤ 1000000) : Good Try.prog TT false 17 [ints xs] (· = .bool (validCoefsB xs)) := by
  have L : (xs.map encI).length = xs.length := List.length_map ..
  refine good_of mixed tabOk Try.func17 rfl rfl Try.ntmps17 Try.results17 rfl rfl ?_
  (conv => whnf); (repeat (first | (refine arith_i ⟨by omega, by omega⟩ ?_; conv => whnf) | (refine need_i (by first | omega | (simp only [List.length_append, List.length_cons, List.length_nil]; omega)) ?_; conv => whnf) | ((with_reducible first | refine branch_tt ?_ | refine branch_ff ?_); conv => whnf) | (with_reducible refine branch_not ?_) | ((with_reducible first | refine slc_e ?_ | refine callS_a ?_ | refine bld_a ?_ | refine own_e ?_ | refine mkmap_b ?_); conv => whnf)))
  refine loop_i (fun k : Nat => k ≤ xs.length ∧ AllTo coefB xs k) (fun k => mkSt [(5, ints xs), (6, .int .i64 (xs.map encI).length), (7, .int .i64 k)] [] false) (fun k => xs.length - k) 0 ⟨Nat.zero_le _, AllTo.zero⟩ (le_mk ⟨rfl, rfl, rfl, trivial⟩ trivial rfl) ?_
  rintro k ⟨hk, hall⟩
  (conv => whnf); (repeat (first | (refine arith_i ⟨by omega, by omega⟩ ?_; conv => whnf) | (refine need_i (by first | omega | (simp only [List.length_append, List.length_cons, List.length_nil]; omega)) ?_; conv => whnf) | ((with_reducible first | refine branch_tt ?_ | refine branch_ff ?_); conv => whnf) | (with_reducible refine branch_not ?_) | ((with_reducible first | refine slc_e ?_ | refine callS_a ?_ | refine bld_a ?_ | refine own_e ?_ | refine mkmap_b ?_); conv => whnf)))
  refine branch_d (fun h => ?_) (fun h => ?_)
  · (conv => whnf); (repeat (first | (refine arith_i ⟨by omega, by omega⟩ ?_; conv => whnf) | (refine need_i (by first | omega | (simp only [List.length_append, List.length_cons, List.length_nil]; omega)) ?_; conv => whnf) | ((with_reducible first | refine branch_tt ?_ | refine branch_ff ?_); conv => whnf) | (with_reducible refine branch_not ?_) | ((with_reducible first | refine slc_e ?_ | refine callS_a ?_ | refine bld_a ?_ | refine own_e ?_ | refine mkmap_b ?_); conv => whnf)))
    refine idx_m (by omega) (by omega) fun y hy => ?_
    rw [Int.toNat_natCast] at hy
    have hn := nth_eq hy
    (conv => whnf); (repeat (first | (refine arith_i ⟨by omega, by omega⟩ ?_; conv => whnf) | (refine need_i (by first | omega | (simp only [List.length_append, List.length_cons, List.length_nil]; omega)) ?_; conv => whnf) | ((with_reducible first | refine branch_tt ?_ | refine branch_ff ?_); conv => whnf) | (with_reducible refine branch_not ?_) | ((with_reducible first | refine slc_e ?_ | refine callS_a ?_ | refine bld_a ?_ | refine own_e ?_ | refine mkmap_b ?_); conv => whnf)))
    refine branch_d (fun h1 => ?_) (fun h1 => ?_)
    · (conv => whnf); (repeat (first | (refine arith_i ⟨by omega, by omega⟩ ?_; conv => whnf) | (refine need_i (by first | omega | (simp only [List.length_append, List.length_cons, List.length_nil]; omega)) ?_; conv => whnf) | ((with_reducible first | refine branch_tt ?_ | refine branch_ff ?_); conv => whnf) | (with_reducible refine branch_not ?_) | ((with_reducible first | refine slc_e ?_ | refine callS_a ?_ | refine bld_a ?_ | refine own_e ?_ | refine mkmap_b ?_); conv => whnf)))
      exact ret_p rfl (bool_eq (all_fail (k := k) (by omega) (by simp [coefB, hn]; omega)).symm)
    · (conv => whnf); (repeat (first | (refine arith_i ⟨by omega, by omega⟩ ?_; conv => whnf) | (refine need_i (by first | omega | (simp only [List.length_append, List.length_cons, List.length_nil]; omega)) ?_; conv => whnf) | ((with_reducible first | refine branch_tt ?_ | refine branch_ff ?_); conv => whnf) | (with_reducible refine branch_not ?_) | ((with_reducible first | refine slc_e ?_ | refine callS_a ?_ | refine bld_a ?_ | refine own_e ?_ | refine mkmap_b ?_); conv => whnf)))
      refine branch_d (fun h2 => ?_) (fun h2 => ?_)
      · (conv => whnf); (repeat (first | (refine arith_i ⟨by omega, by omega⟩ ?_; conv => whnf) | (refine need_i (by first | omega | (simp only [List.length_append, List.length_cons, List.length_nil]; omega)) ?_; conv => whnf) | ((with_reducible first | refine branch_tt ?_ | refine branch_ff ?_); conv => whnf) | (with_reducible refine branch_not ?_) | ((with_reducible first | refine slc_e ?_ | refine callS_a ?_ | refine bld_a ?_ | refine own_e ?_ | refine mkmap_b ?_); conv => whnf)))
        exact ret_p rfl (bool_eq (all_fail (k := k) (by omega) (by simp [coefB, hn]; omega)).symm)
      · (conv => whnf); (repeat (first | (refine arith_i ⟨by omega, by omega⟩ ?_; conv => whnf) | (refine need_i (by first | omega | (simp only [List.length_append, List.length_cons, List.length_nil]; omega)) ?_; conv => whnf) | ((with_reducible first | refine branch_tt ?_ | refine branch_ff ?_); conv => whnf) | (with_reducible refine branch_not ?_) | ((with_reducible first | refine slc_e ?_ | refine callS_a ?_ | refine bld_a ?_ | refine own_e ?_ | refine mkmap_b ?_); conv => whnf)))
        exact ⟨k + 1, ⟨by omega, hall.step (by rw [coefB_iff, hn]; omega)⟩, le_mk ⟨rfl, rfl, rfl, trivial⟩ trivial rfl, by omega⟩
  · (conv => whnf); (repeat (first | (refine arith_i ⟨by omega, by omega⟩ ?_; conv => whnf) | (refine need_i (by first | omega | (simp only [List.length_append, List.length_cons, List.length_nil]; omega)) ?_; conv => whnf) | ((with_reducible first | refine branch_tt ?_ | refine branch_ff ?_); conv => whnf) | (with_reducible refine branch_not ?_) | ((with_reducible first | refine slc_e ?_ | refine callS_a ?_ | refine bld_a ?_ | refine own_e ?_ | refine mkmap_b ?_); conv => whnf)))
    exact ret_p rfl (bool_eq (hall.full (by omega)).symm)
theorem isState_ok (xs : List Int) (m : Nat) (hl : xs.length ≤ 1000000) (hm : m ≤ 1000000) : Good Try.prog TT false 33 [ints xs, .int .i64 m] (· = .bool (isStateB xs m)) := by
  have L : (xs.map encI).length = xs.length := List.length_map ..
  refine good_of mixed tabOk Try.func33 rfl rfl Try.ntmps33 Try.results33 rfl rfl ?_
  (conv => whnf); (repeat (first | (refine arith_i ⟨by omega, by omega⟩ ?_; conv => whnf) | (refine need_i (by first | omega | (simp only [List.length_append, List.length_cons, List.length_nil]; omega)) ?_; conv => whnf) | ((with_reducible first | refine branch_tt ?_ | refine branch_ff ?_); conv => whnf) | (with_reducible refine branch_not ?_) | ((with_reducible first | refine slc_e ?_ | refine callS_a ?_ | refine bld_a ?_ | refine own_e ?_ | refine mkmap_b ?_); conv => whnf)))
  refine branch_n (fun h => ?_) (fun h => ?_)
  · (conv => whnf); (repeat (first | (refine arith_i ⟨by omega, by omega⟩ ?_; conv => whnf) | (refine need_i (by first | omega | (simp only [List.length_append, List.length_cons, List.length_nil]; omega)) ?_; conv => whnf) | ((with_reducible first | refine branch_tt ?_ | refine branch_ff ?_); conv => whnf) | (with_reducible refine branch_not ?_) | ((with_reducible first | refine slc_e ?_ | refine callS_a ?_ | refine bld_a ?_ | refine own_e ?_ | refine mkmap_b ?_); conv => whnf)))
    exact ret_p rfl (bool_eq (by have : xs.length ≠ m := by omega
                                 simp [isStateB, this]))
  · (conv => whnf); (repeat (first | (refine arith_i ⟨by omega, by omega⟩ ?_; conv => whnf) | (refine need_i (by first | omega | (simp only [List.length_append, List.length_cons, List.length_nil]; omega)) ?_; conv => whnf) | ((with_reducible first | refine branch_tt ?_ | refine branch_ff ?_); conv => whnf) | (with_reducible refine branch_not ?_) | ((with_reducible first | refine slc_e ?_ | refine callS_a ?_ | refine bld_a ?_ | refine own_e ?_ | refine mkmap_b ?_); conv => whnf)))
    refine branch_d (fun h1 => ?_) (fun h1 => ?_)
    · (conv => whnf); (repeat (first | (refine arith_i ⟨by omega, by omega⟩ ?_; conv => whnf) | (refine need_i (by first | omega | (simp only [List.length_append, List.length_cons, List.length_nil]; omega)) ?_; conv => whnf) | ((with_reducible first | refine branch_tt ?_ | refine branch_ff ?_); conv => whnf) | (with_reducible refine branch_not ?_) | ((with_reducible first | refine slc_e ?_ | refine callS_a ?_ | refine bld_a ?_ | refine own_e ?_ | refine mkmap_b ?_); conv => whnf)))
      exact ret_p rfl (bool_eq (by have : ¬ m ≤ 12 := by omega
                                   simp [isStateB, this]))
    · (conv => whnf); (repeat (first | (refine arith_i ⟨by omega, by omega⟩ ?_; conv => whnf) | (refine need_i (by first | omega | (simp only [List.length_append, List.length_cons, List.length_nil]; omega)) ?_; conv => whnf) | ((with_reducible first | refine branch_tt ?_ | refine branch_ff ?_); conv => whnf) | (with_reducible refine branch_not ?_) | ((with_reducible first | refine slc_e ?_ | refine callS_a ?_ | refine bld_a ?_ | refine own_e ?_ | refine mkmap_b ?_); conv => whnf)))
      have hb : isStateB xs m = xs.all triB := by
        have e1 : xs.length = m := by omega
        have e2 : m ≤ 12 := by omega
        simp [isStateB, e1, e2]
      rw [hb]
      refine loop_i (fun k : Nat => k ≤ xs.length ∧ AllTo triB xs k) (fun k => mkSt [(15, ints xs), (16, .int .i64 (xs.map encI).length), (17, .int .i64 k)] [] false) (fun k => xs.length - k) 0 ⟨Nat.zero_le _, AllTo.zero⟩ (le_mk ⟨rfl, rfl, rfl, trivial⟩ trivial rfl) ?_
      rintro k ⟨hk, hall⟩
      (conv => whnf); (repeat (first | (refine arith_i ⟨by omega, by omega⟩ ?_; conv => whnf) | (refine need_i (by first | omega | (simp only [List.length_append, List.length_cons, List.length_nil]; omega)) ?_; conv => whnf) | ((with_reducible first | refine branch_tt ?_ | refine branch_ff ?_); conv => whnf) | (with_reducible refine branch_not ?_) | ((with_reducible first | refine slc_e ?_ | refine callS_a ?_ | refine bld_a ?_ | refine own_e ?_ | refine mkmap_b ?_); conv => whnf)))
      refine branch_d (fun h => ?_) (fun h => ?_)
      · (conv => whnf); (repeat (first | (refine arith_i ⟨by omega, by omega⟩ ?_; conv => whnf) | (refine need_i (by first | omega | (simp only [List.length_append, List.length_cons, List.length_nil]; omega)) ?_; conv => whnf) | ((with_reducible first | refine branch_tt ?_ | refine branch_ff ?_); conv => whnf) | (with_reducible refine branch_not ?_) | ((with_reducible first | refine slc_e ?_ | refine callS_a ?_ | refine bld_a ?_ | refine own_e ?_ | refine mkmap_b ?_); conv => whnf)))
        refine idx_m (by omega) (by omega) fun y hy => ?_
        rw [Int.toNat_natCast] at hy
        have hn := nth_eq hy
        (conv => whnf); (repeat (first | (refine arith_i ⟨by omega, by omega⟩ ?_; conv => whnf) | (refine need_i (by first | omega | (simp only [List.length_append, List.length_cons, List.length_nil]; omega)) ?_; conv => whnf) | ((with_reducible first | refine branch_tt ?_ | refine branch_ff ?_); conv => whnf) | (with_reducible refine branch_not ?_) | ((with_reducible first | refine slc_e ?_ | refine callS_a ?_ | refine bld_a ?_ | refine own_e ?_ | refine mkmap_b ?_); conv => whnf)))
        refine branch_d (fun h1 => ?_) (fun h1 => ?_)
        · (conv => whnf); (repeat (first | (refine arith_i ⟨by omega, by omega⟩ ?_; conv => whnf) | (refine need_i (by first | omega | (simp only [List.length_append, List.length_cons, List.length_nil]; omega)) ?_; conv => whnf) | ((with_reducible first | refine branch_tt ?_ | refine branch_ff ?_); conv => whnf) | (with_reducible refine branch_not ?_) | ((with_reducible first | refine slc_e ?_ | refine callS_a ?_ | refine bld_a ?_ | refine own_e ?_ | refine mkmap_b ?_); conv => whnf)))
          exact ret_p rfl (bool_eq (all_fail (k := k) (by omega) (by simp [triB, hn]; omega)).symm)
        · (conv => whnf); (repeat (first | (refine arith_i ⟨by omega, by omega⟩ ?_; conv => whnf) | (refine need_i (by first | omega | (simp only [List.length_append, List.length_cons, List.length_nil]; omega)) ?_; conv => whnf) | ((with_reducible first | refine branch_tt ?_ | refine branch_ff ?_); conv => whnf) | (with_reducible refine branch_not ?_) | ((with_reducible first | refine slc_e ?_ | refine callS_a ?_ | refine bld_a ?_ | refine own_e ?_ | refine mkmap_b ?_); conv => whnf)))
          refine branch_d (fun h2 => ?_) (fun h2 => ?_)
          · (conv => whnf); (repeat (first | (refine arith_i ⟨by omega, by omega⟩ ?_; conv => whnf) | (refine need_i (by first | omega | (simp only [List.length_append, List.length_cons, List.length_nil]; omega)) ?_; conv => whnf) | ((with_reducible first | refine branch_tt ?_ | refine branch_ff ?_); conv => whnf) | (with_reducible refine branch_not ?_) | ((with_reducible first | refine slc_e ?_ | refine callS_a ?_ | refine bld_a ?_ | refine own_e ?_ | refine mkmap_b ?_); conv => whnf)))
            exact ret_p rfl (bool_eq (all_fail (k := k) (by omega) (by simp [triB, hn]; omega)).symm)
          · (conv => whnf); (repeat (first | (refine arith_i ⟨by omega, by omega⟩ ?_; conv => whnf) | (refine need_i (by first | omega | (simp only [List.length_append, List.length_cons, List.length_nil]; omega)) ?_; conv => whnf) | ((with_reducible first | refine branch_tt ?_ | refine branch_ff ?_); conv => whnf) | (with_reducible refine branch_not ?_) | ((with_reducible first | refine slc_e ?_ | refine callS_a ?_ | refine bld_a ?_ | refine own_e ?_ | refine mkmap_b ?_); conv => whnf)))
            exact ⟨k + 1, ⟨by omega, hall.step (by rw [triB_iff, hn]; omega)⟩, le_mk ⟨rfl, rfl, rfl, trivial⟩ trivial rfl, by omega⟩
      · (conv => whnf); (repeat (first | (refine arith_i ⟨by omega, by omega⟩ ?_; conv => whnf) | (refine need_i (by first | omega | (simp only [List.length_append, List.length_cons, List.length_nil]; omega)) ?_; conv => whnf) | ((with_reducible first | refine branch_tt ?_ | refine branch_ff ?_); conv => whnf) | (with_reducible refine branch_not ?_) | ((with_reducible first | refine slc_e ?_ | refine callS_a ?_ | refine bld_a ?_ | refine own_e ?_ | refine mkmap_b ?_); conv => whnf)))
        exact ret_p rfl (bool_eq (hall.full (by omega)).symm)
theorem isBound_ok (x : Int) : Good Try.prog TT false 18 [.int .i64 x] (· = .bool (boundB x)) := by
  refine good_of mixed tabOk Try.func18 rfl rfl Try.ntmps18 Try.results18 rfl rfl ?_
  (conv => whnf); (repeat (first | (refine arith_i ⟨by omega, by omega⟩ ?_; conv => whnf) | (refine need_i (by first | omega | (simp only [List.length_append, List.length_cons, List.length_nil]; omega)) ?_; conv => whnf) | ((with_reducible first | refine branch_tt ?_ | refine branch_ff ?_); conv => whnf) | (with_reducible refine branch_not ?_) | ((with_reducible first | refine slc_e ?_ | refine callS_a ?_ | refine bld_a ?_ | refine own_e ?_ | refine mkmap_b ?_); conv => whnf)))
  refine branch_d (fun h => ?_) (fun h => ?_)
  · (conv => whnf); (repeat (first | (refine arith_i ⟨by omega, by omega⟩ ?_; conv => whnf) | (refine need_i (by first | omega | (simp only [List.length_append, List.length_cons, List.length_nil]; omega)) ?_; conv => whnf) | ((with_reducible first | refine branch_tt ?_ | refine branch_ff ?_); conv => whnf) | (with_reducible refine branch_not ?_) | ((with_reducible first | refine slc_e ?_ | refine callS_a ?_ | refine bld_a ?_ | refine own_e ?_ | refine mkmap_b ?_); conv => whnf)))
    exact ret_p rfl (bool_eq (by simp [boundB, h]))
  · (conv => whnf); (repeat (first | (refine arith_i ⟨by omega, by omega⟩ ?_; conv => whnf) | (refine need_i (by first | omega | (simp only [List.length_append, List.length_cons, List.length_nil]; omega)) ?_; conv => whnf) | ((with_reducible first | refine branch_tt ?_ | refine branch_ff ?_); conv => whnf) | (with_reducible refine branch_not ?_) | ((with_reducible first | refine slc_e ?_ | refine callS_a ?_ | refine bld_a ?_ | refine own_e ?_ | refine mkmap_b ?_); conv => whnf)))
    exact ret_p rfl (bool_eq (by simp [boundB, h]))
theorem valid_ok (P : Prog) (hc : P.costs.length ≤ 1000000) (hr : P.rows.length ≤ 1000000) (hrl : ∀ r ∈ P.rows, r.coefs.length ≤ 1000000) : Good Try.prog TT false 7 [progV P] (· = .bool (validB P)) := by
  have L : (P.costs.map encI).length = P.costs.length := List.length_map ..
  have LR : (P.rows.map encRow).length = P.rows.length := List.length_map ..
  refine good_of mixed tabOk Try.func7 rfl rfl Try.ntmps7 Try.results7 rfl rfl ?_
  (conv => whnf); (repeat (first | (refine arith_i ⟨by omega, by omega⟩ ?_; conv => whnf) | (refine need_i (by first | omega | (simp only [List.length_append, List.length_cons, List.length_nil]; omega)) ?_; conv => whnf) | ((with_reducible first | refine branch_tt ?_ | refine branch_ff ?_); conv => whnf) | (with_reducible refine branch_not ?_) | ((with_reducible first | refine slc_e ?_ | refine callS_a ?_ | refine bld_a ?_ | refine own_e ?_ | refine mkmap_b ?_); conv => whnf)))
  refine branch_d (fun h => ?_) (fun h => ?_)
  · (conv => whnf); (repeat (first | (refine arith_i ⟨by omega, by omega⟩ ?_; conv => whnf) | (refine need_i (by first | omega | (simp only [List.length_append, List.length_cons, List.length_nil]; omega)) ?_; conv => whnf) | ((with_reducible first | refine branch_tt ?_ | refine branch_ff ?_); conv => whnf) | (with_reducible refine branch_not ?_) | ((with_reducible first | refine slc_e ?_ | refine callS_a ?_ | refine bld_a ?_ | refine own_e ?_ | refine mkmap_b ?_); conv => whnf)))
    exact ret_p rfl (bool_eq (validB_big (.inl (by omega))).symm)
  · (conv => whnf); (repeat (first | (refine arith_i ⟨by omega, by omega⟩ ?_; conv => whnf) | (refine need_i (by first | omega | (simp only [List.length_append, List.length_cons, List.length_nil]; omega)) ?_; conv => whnf) | ((with_reducible first | refine branch_tt ?_ | refine branch_ff ?_); conv => whnf) | (with_reducible refine branch_not ?_) | ((with_reducible first | refine slc_e ?_ | refine callS_a ?_ | refine bld_a ?_ | refine own_e ?_ | refine mkmap_b ?_); conv => whnf)))
    refine branch_d (fun h1 => ?_) (fun h1 => ?_)
    · (conv => whnf); (repeat (first | (refine arith_i ⟨by omega, by omega⟩ ?_; conv => whnf) | (refine need_i (by first | omega | (simp only [List.length_append, List.length_cons, List.length_nil]; omega)) ?_; conv => whnf) | ((with_reducible first | refine branch_tt ?_ | refine branch_ff ?_); conv => whnf) | (with_reducible refine branch_not ?_) | ((with_reducible first | refine slc_e ?_ | refine callS_a ?_ | refine bld_a ?_ | refine own_e ?_ | refine mkmap_b ?_); conv => whnf)))
      exact ret_p rfl (bool_eq (validB_big (.inr (by omega))).symm)
    · (conv => whnf); (repeat (first | (refine arith_i ⟨by omega, by omega⟩ ?_; conv => whnf) | (refine need_i (by first | omega | (simp only [List.length_append, List.length_cons, List.length_nil]; omega)) ?_; conv => whnf) | ((with_reducible first | refine branch_tt ?_ | refine branch_ff ?_); conv => whnf) | (with_reducible refine branch_not ?_) | ((with_reducible first | refine slc_e ?_ | refine callS_a ?_ | refine bld_a ?_ | refine own_e ?_ | refine mkmap_b ?_); conv => whnf)))
      refine loop_i (fun k : Nat => k ≤ P.costs.length ∧ AllTo costB P.costs k) (fun k => mkSt [(1, .ptr 1 0), (18, ints P.costs), (19, .int .i64 (P.costs.map encI).length), (20, .int .i64 k)] [(1, [ints P.costs, rowsV P.rows])] false) (fun k => P.costs.length - k) 0 ⟨Nat.zero_le _, AllTo.zero⟩ (le_mk ⟨rfl, rfl, rfl, rfl, trivial⟩ ⟨rfl, trivial⟩ rfl) ?_
      rintro k ⟨hk, hall⟩
      (conv => whnf); (repeat (first | (refine arith_i ⟨by omega, by omega⟩ ?_; conv => whnf) | (refine need_i (by first | omega | (simp only [List.length_append, List.length_cons, List.length_nil]; omega)) ?_; conv => whnf) | ((with_reducible first | refine branch_tt ?_ | refine branch_ff ?_); conv => whnf) | (with_reducible refine branch_not ?_) | ((with_reducible first | refine slc_e ?_ | refine callS_a ?_ | refine bld_a ?_ | refine own_e ?_ | refine mkmap_b ?_); conv => whnf)))
      refine branch_d (fun h => ?_) (fun h => ?_)
      · (conv => whnf); (repeat (first | (refine arith_i ⟨by omega, by omega⟩ ?_; conv => whnf) | (refine need_i (by first | omega | (simp only [List.length_append, List.length_cons, List.length_nil]; omega)) ?_; conv => whnf) | ((with_reducible first | refine branch_tt ?_ | refine branch_ff ?_); conv => whnf) | (with_reducible refine branch_not ?_) | ((with_reducible first | refine slc_e ?_ | refine callS_a ?_ | refine bld_a ?_ | refine own_e ?_ | refine mkmap_b ?_); conv => whnf)))
        refine idx_m (by omega) (by omega) fun y hy => ?_
        rw [Int.toNat_natCast] at hy
        have hn := nth_eq hy
        (conv => whnf); (repeat (first | (refine arith_i ⟨by omega, by omega⟩ ?_; conv => whnf) | (refine need_i (by first | omega | (simp only [List.length_append, List.length_cons, List.length_nil]; omega)) ?_; conv => whnf) | ((with_reducible first | refine branch_tt ?_ | refine branch_ff ?_); conv => whnf) | (with_reducible refine branch_not ?_) | ((with_reducible first | refine slc_e ?_ | refine callS_a ?_ | refine bld_a ?_ | refine own_e ?_ | refine mkmap_b ?_); conv => whnf)))
        refine branch_d (fun h1 => ?_) (fun h1 => ?_)
        · (conv => whnf); (repeat (first | (refine arith_i ⟨by omega, by omega⟩ ?_; conv => whnf) | (refine need_i (by first | omega | (simp only [List.length_append, List.length_cons, List.length_nil]; omega)) ?_; conv => whnf) | ((with_reducible first | refine branch_tt ?_ | refine branch_ff ?_); conv => whnf) | (with_reducible refine branch_not ?_) | ((with_reducible first | refine slc_e ?_ | refine callS_a ?_ | refine bld_a ?_ | refine own_e ?_ | refine mkmap_b ?_); conv => whnf)))
          exact ret_p rfl (bool_eq (validB_cost (all_fail (k := k) (by omega) (by simp [costB, hn]; omega))).symm)
        · (conv => whnf); (repeat (first | (refine arith_i ⟨by omega, by omega⟩ ?_; conv => whnf) | (refine need_i (by first | omega | (simp only [List.length_append, List.length_cons, List.length_nil]; omega)) ?_; conv => whnf) | ((with_reducible first | refine branch_tt ?_ | refine branch_ff ?_); conv => whnf) | (with_reducible refine branch_not ?_) | ((with_reducible first | refine slc_e ?_ | refine callS_a ?_ | refine bld_a ?_ | refine own_e ?_ | refine mkmap_b ?_); conv => whnf)))
          refine branch_d (fun h2 => ?_) (fun h2 => ?_)
          · (conv => whnf); (repeat (first | (refine arith_i ⟨by omega, by omega⟩ ?_; conv => whnf) | (refine need_i (by first | omega | (simp only [List.length_append, List.length_cons, List.length_nil]; omega)) ?_; conv => whnf) | ((with_reducible first | refine branch_tt ?_ | refine branch_ff ?_); conv => whnf) | (with_reducible refine branch_not ?_) | ((with_reducible first | refine slc_e ?_ | refine callS_a ?_ | refine bld_a ?_ | refine own_e ?_ | refine mkmap_b ?_); conv => whnf)))
            exact ret_p rfl (bool_eq (validB_cost (all_fail (k := k) (by omega) (by simp [costB, hn]; omega))).symm)
          · (conv => whnf); (repeat (first | (refine arith_i ⟨by omega, by omega⟩ ?_; conv => whnf) | (refine need_i (by first | omega | (simp only [List.length_append, List.length_cons, List.length_nil]; omega)) ?_; conv => whnf) | ((with_reducible first | refine branch_tt ?_ | refine branch_ff ?_); conv => whnf) | (with_reducible refine branch_not ?_) | ((with_reducible first | refine slc_e ?_ | refine callS_a ?_ | refine bld_a ?_ | refine own_e ?_ | refine mkmap_b ?_); conv => whnf)))
            exact ⟨k + 1, ⟨by omega, hall.step (by rw [costB_iff, hn]; omega)⟩, le_mk ⟨rfl, rfl, rfl, rfl, trivial⟩ ⟨rfl, trivial⟩ rfl, by omega⟩
      · (conv => whnf); (repeat (first | (refine arith_i ⟨by omega, by omega⟩ ?_; conv => whnf) | (refine need_i (by first | omega | (simp only [List.length_append, List.length_cons, List.length_nil]; omega)) ?_; conv => whnf) | ((with_reducible first | refine branch_tt ?_ | refine branch_ff ?_); conv => whnf) | (with_reducible refine branch_not ?_) | ((with_reducible first | refine slc_e ?_ | refine callS_a ?_ | refine bld_a ?_ | refine own_e ?_ | refine mkmap_b ?_); conv => whnf)))
        have hcost := hall.full (by omega)
        refine loop_i (fun k : Nat => k ≤ P.rows.length ∧ AllR (rowB P.costs.length) P.rows k) (fun k => mkSt [(1, .ptr 1 0), (32, rowsV P.rows), (33, .int .i64 (P.rows.map encRow).length), (34, .int .i64 k)] [(1, [ints P.costs, rowsV P.rows])] false) (fun k => P.rows.length - k) 0 ⟨Nat.zero_le _, AllR.zero⟩ (le_mk ⟨rfl, rfl, rfl, rfl, trivial⟩ ⟨rfl, trivial⟩ rfl) ?_
        rintro j ⟨hj, hallr⟩
        (conv => whnf); (repeat (first | (refine arith_i ⟨by omega, by omega⟩ ?_; conv => whnf) | (refine need_i (by first | omega | (simp only [List.length_append, List.length_cons, List.length_nil]; omega)) ?_; conv => whnf) | ((with_reducible first | refine branch_tt ?_ | refine branch_ff ?_); conv => whnf) | (with_reducible refine branch_not ?_) | ((with_reducible first | refine slc_e ?_ | refine callS_a ?_ | refine bld_a ?_ | refine own_e ?_ | refine mkmap_b ?_); conv => whnf)))
        refine branch_d (fun h => ?_) (fun h => ?_)
        · (conv => whnf); (repeat (first | (refine arith_i ⟨by omega, by omega⟩ ?_; conv => whnf) | (refine need_i (by first | omega | (simp only [List.length_append, List.length_cons, List.length_nil]; omega)) ?_; conv => whnf) | ((with_reducible first | refine branch_tt ?_ | refine branch_ff ?_); conv => whnf) | (with_reducible refine branch_not ?_) | ((with_reducible first | refine slc_e ?_ | refine callS_a ?_ | refine bld_a ?_ | refine own_e ?_ | refine mkmap_b ?_); conv => whnf)))
          refine idx_m (by omega) (by omega) fun r hr => ?_
          rw [Int.toNat_natCast] at hr
          have hrow := rowAt_eq hr
          have hrl' := hrl r (List.mem_of_getElem? hr)
          have LC : (r.coefs.map encI).length = r.coefs.length := List.length_map ..
          have bad : rowB P.costs.length r = false → validB P = false := fun hb => validB_row (k := j) (by omega) (by rw [hrow]; exact hb)
          (conv => whnf); (repeat (first | (refine arith_i ⟨by omega, by omega⟩ ?_; conv => whnf) | (refine need_i (by first | omega | (simp only [List.length_append, List.length_cons, List.length_nil]; omega)) ?_; conv => whnf) | ((with_reducible first | refine branch_tt ?_ | refine branch_ff ?_); conv => whnf) | (with_reducible refine branch_not ?_) | ((with_reducible first | refine slc_e ?_ | refine callS_a ?_ | refine bld_a ?_ | refine own_e ?_ | refine mkmap_b ?_); conv => whnf)))
          refine branch_n (fun h1 => ?_) (fun h1 => ?_)
          · (conv => whnf); (repeat (first | (refine arith_i ⟨by omega, by omega⟩ ?_; conv => whnf) | (refine need_i (by first | omega | (simp only [List.length_append, List.length_cons, List.length_nil]; omega)) ?_; conv => whnf) | ((with_reducible first | refine branch_tt ?_ | refine branch_ff ?_); conv => whnf) | (with_reducible refine branch_not ?_) | ((with_reducible first | refine slc_e ?_ | refine callS_a ?_ | refine bld_a ?_ | refine own_e ?_ | refine mkmap_b ?_); conv => whnf)))
            exact ret_p rfl (bool_eq (bad (by have : r.coefs.length ≠ P.costs.length := by omega
                                              simp [rowB, this])).symm)
          · (conv => whnf); (repeat (first | (refine arith_i ⟨by omega, by omega⟩ ?_; conv => whnf) | (refine need_i (by first | omega | (simp only [List.length_append, List.length_cons, List.length_nil]; omega)) ?_; conv => whnf) | ((with_reducible first | refine branch_tt ?_ | refine branch_ff ?_); conv => whnf) | (with_reducible refine branch_not ?_) | ((with_reducible first | refine slc_e ?_ | refine callS_a ?_ | refine bld_a ?_ | refine own_e ?_ | refine mkmap_b ?_); conv => whnf)))
            refine call_e (validCoefs_ok r.coefs hrl') ?_
            (conv => whnf); (repeat (first | (refine arith_i ⟨by omega, by omega⟩ ?_; conv => whnf) | (refine need_i (by first | omega | (simp only [List.length_append, List.length_cons, List.length_nil]; omega)) ?_; conv => whnf) | ((with_reducible first | refine branch_tt ?_ | refine branch_ff ?_); conv => whnf) | (with_reducible refine branch_not ?_) | ((with_reducible first | refine slc_e ?_ | refine callS_a ?_ | refine bld_a ?_ | refine own_e ?_ | refine mkmap_b ?_); conv => whnf)))
            cases hv : validCoefsB r.coefs with
            | false =>
              (conv => whnf); (repeat (first | (refine arith_i ⟨by omega, by omega⟩ ?_; conv => whnf) | (refine need_i (by first | omega | (simp only [List.length_append, List.length_cons, List.length_nil]; omega)) ?_; conv => whnf) | ((with_reducible first | refine branch_tt ?_ | refine branch_ff ?_); conv => whnf) | (with_reducible refine branch_not ?_) | ((with_reducible first | refine slc_e ?_ | refine callS_a ?_ | refine bld_a ?_ | refine own_e ?_ | refine mkmap_b ?_); conv => whnf)))
              exact ret_p rfl (bool_eq (bad (by simp [rowB, hv])).symm)
            | true =>
              (conv => whnf); (repeat (first | (refine arith_i ⟨by omega, by omega⟩ ?_; conv => whnf) | (refine need_i (by first | omega | (simp only [List.length_append, List.length_cons, List.length_nil]; omega)) ?_; conv => whnf) | ((with_reducible first | refine branch_tt ?_ | refine branch_ff ?_); conv => whnf) | (with_reducible refine branch_not ?_) | ((with_reducible first | refine slc_e ?_ | refine callS_a ?_ | refine bld_a ?_ | refine own_e ?_ | refine mkmap_b ?_); conv => whnf)))
              refine call_e (isBound_ok r.least) ?_
              (conv => whnf); (repeat (first | (refine arith_i ⟨by omega, by omega⟩ ?_; conv => whnf) | (refine need_i (by first | omega | (simp only [List.length_append, List.length_cons, List.length_nil]; omega)) ?_; conv => whnf) | ((with_reducible first | refine branch_tt ?_ | refine branch_ff ?_); conv => whnf) | (with_reducible refine branch_not ?_) | ((with_reducible first | refine slc_e ?_ | refine callS_a ?_ | refine bld_a ?_ | refine own_e ?_ | refine mkmap_b ?_); conv => whnf)))
              cases hb1 : boundB r.least with
              | false =>
                (conv => whnf); (repeat (first | (refine arith_i ⟨by omega, by omega⟩ ?_; conv => whnf) | (refine need_i (by first | omega | (simp only [List.length_append, List.length_cons, List.length_nil]; omega)) ?_; conv => whnf) | ((with_reducible first | refine branch_tt ?_ | refine branch_ff ?_); conv => whnf) | (with_reducible refine branch_not ?_) | ((with_reducible first | refine slc_e ?_ | refine callS_a ?_ | refine bld_a ?_ | refine own_e ?_ | refine mkmap_b ?_); conv => whnf)))
                exact ret_p rfl (bool_eq (bad (by simp [rowB, hb1])).symm)
              | true =>
                (conv => whnf); (repeat (first | (refine arith_i ⟨by omega, by omega⟩ ?_; conv => whnf) | (refine need_i (by first | omega | (simp only [List.length_append, List.length_cons, List.length_nil]; omega)) ?_; conv => whnf) | ((with_reducible first | refine branch_tt ?_ | refine branch_ff ?_); conv => whnf) | (with_reducible refine branch_not ?_) | ((with_reducible first | refine slc_e ?_ | refine callS_a ?_ | refine bld_a ?_ | refine own_e ?_ | refine mkmap_b ?_); conv => whnf)))
                refine call_e (isBound_ok r.most) ?_
                (conv => whnf); (repeat (first | (refine arith_i ⟨by omega, by omega⟩ ?_; conv => whnf) | (refine need_i (by first | omega | (simp only [List.length_append, List.length_cons, List.length_nil]; omega)) ?_; conv => whnf) | ((with_reducible first | refine branch_tt ?_ | refine branch_ff ?_); conv => whnf) | (with_reducible refine branch_not ?_) | ((with_reducible first | refine slc_e ?_ | refine callS_a ?_ | refine bld_a ?_ | refine own_e ?_ | refine mkmap_b ?_); conv => whnf)))
                cases hb2 : boundB r.most with
                | false =>
                  (conv => whnf); (repeat (first | (refine arith_i ⟨by omega, by omega⟩ ?_; conv => whnf) | (refine need_i (by first | omega | (simp only [List.length_append, List.length_cons, List.length_nil]; omega)) ?_; conv => whnf) | ((with_reducible first | refine branch_tt ?_ | refine branch_ff ?_); conv => whnf) | (with_reducible refine branch_not ?_) | ((with_reducible first | refine slc_e ?_ | refine callS_a ?_ | refine bld_a ?_ | refine own_e ?_ | refine mkmap_b ?_); conv => whnf)))
                  exact ret_p rfl (bool_eq (bad (by simp [rowB, hb2])).symm)
                | true =>
                  (conv => whnf); (repeat (first | (refine arith_i ⟨by omega, by omega⟩ ?_; conv => whnf) | (refine need_i (by first | omega | (simp only [List.length_append, List.length_cons, List.length_nil]; omega)) ?_; conv => whnf) | ((with_reducible first | refine branch_tt ?_ | refine branch_ff ?_); conv => whnf) | (with_reducible refine branch_not ?_) | ((with_reducible first | refine slc_e ?_ | refine callS_a ?_ | refine bld_a ?_ | refine own_e ?_ | refine mkmap_b ?_); conv => whnf)))
                  exact ⟨j + 1, ⟨by omega, hallr.step (by have : r.coefs.length = P.costs.length := by omega
                                                          simp [hrow, rowB, this, hv, hb1, hb2])⟩, le_mk ⟨rfl, rfl, rfl, rfl, trivial⟩ ⟨rfl, trivial⟩ rfl, by omega⟩
        · (conv => whnf); (repeat (first | (refine arith_i ⟨by omega, by omega⟩ ?_; conv => whnf) | (refine need_i (by first | omega | (simp only [List.length_append, List.length_cons, List.length_nil]; omega)) ?_; conv => whnf) | ((with_reducible first | refine branch_tt ?_ | refine branch_ff ?_); conv => whnf) | (with_reducible refine branch_not ?_) | ((with_reducible first | refine slc_e ?_ | refine callS_a ?_ | refine bld_a ?_ | refine own_e ?_ | refine mkmap_b ?_); conv => whnf)))
          exact ret_p rfl (bool_eq (by have e1 : P.costs.length ≤ 12 := by omega
                                       have e2 : P.rows.length ≤ 60 := by omega
                                       simp [validB, e1, e2, hcost, hallr.full (by omega)]))
end Go.Proofs.Ytjbmdaoppiinbaa
end

/- Layer 8 by the interpreter: isChoice, sumOver, Meets, Span, Dead. -/
section
namespace Go.Proofs.Ytjbmdaoppiinbaa
set_option linter.unusedVariables false
set_option linter.unusedSimpArgs false
set_option linter.unnecessarySimpa false
set_option linter.unusedSectionVars false
set_option maxRecDepth 10000

theorem isChoice_ok (ch : List Int) (n : Nat) (hl : ch.length ≤ 1000000) (hn : n ≤ 1000000) : Good Try.prog TT false 26 [ints ch, .int .i64 n] (· = .bool (choiceB ch n)) := by
  have L : (ch.map encI).length = ch.length := List.length_map ..
  refine good_of mixed tabOk Try.func26 rfl rfl Try.ntmps26 Try.results26 rfl rfl ?_
  (conv => whnf); (repeat (first | (refine arith_i ⟨by omega, by omega⟩ ?_; conv => whnf) | (refine need_i (by first | omega | (simp only [List.length_append, List.length_cons, List.length_nil]; omega)) ?_; conv => whnf) | ((with_reducible first | refine branch_tt ?_ | refine branch_ff ?_); conv => whnf) | (with_reducible refine branch_not ?_) | ((with_reducible first | refine slc_e ?_ | refine callS_a ?_ | refine bld_a ?_ | refine own_e ?_ | refine mkmap_b ?_); conv => whnf)))
  refine loop_i (fun k : Nat => k ≤ ch.length ∧ ChTo ch n k) (fun k => mkSt [(0, ints ch), (1, .int .i64 n), (7, ints ch), (8, .int .i64 (ch.map encI).length), (9, .int .i64 k)] [] false) (fun k => ch.length - k) 0 ⟨Nat.zero_le _, ChTo.zero⟩ (le_mk ⟨rfl, rfl, rfl, rfl, rfl, trivial⟩ trivial rfl) ?_
  rintro k ⟨hk, hall⟩
  (conv => whnf); (repeat (first | (refine arith_i ⟨by omega, by omega⟩ ?_; conv => whnf) | (refine need_i (by first | omega | (simp only [List.length_append, List.length_cons, List.length_nil]; omega)) ?_; conv => whnf) | ((with_reducible first | refine branch_tt ?_ | refine branch_ff ?_); conv => whnf) | (with_reducible refine branch_not ?_) | ((with_reducible first | refine slc_e ?_ | refine callS_a ?_ | refine bld_a ?_ | refine own_e ?_ | refine mkmap_b ?_); conv => whnf)))
  refine branch_d (fun h => ?_) (fun h => ?_)
  · (conv => whnf); (repeat (first | (refine arith_i ⟨by omega, by omega⟩ ?_; conv => whnf) | (refine need_i (by first | omega | (simp only [List.length_append, List.length_cons, List.length_nil]; omega)) ?_; conv => whnf) | ((with_reducible first | refine branch_tt ?_ | refine branch_ff ?_); conv => whnf) | (with_reducible refine branch_not ?_) | ((with_reducible first | refine slc_e ?_ | refine callS_a ?_ | refine bld_a ?_ | refine own_e ?_ | refine mkmap_b ?_); conv => whnf)))
    refine idx_m (by omega) (by omega) fun y hy => ?_
    rw [Int.toNat_natCast] at hy
    have hn := nth_eq hy
    (conv => whnf); (repeat (first | (refine arith_i ⟨by omega, by omega⟩ ?_; conv => whnf) | (refine need_i (by first | omega | (simp only [List.length_append, List.length_cons, List.length_nil]; omega)) ?_; conv => whnf) | ((with_reducible first | refine branch_tt ?_ | refine branch_ff ?_); conv => whnf) | (with_reducible refine branch_not ?_) | ((with_reducible first | refine slc_e ?_ | refine callS_a ?_ | refine bld_a ?_ | refine own_e ?_ | refine mkmap_b ?_); conv => whnf)))
    refine branch_d (fun h1 => ?_) (fun h1 => ?_)
    · (conv => whnf); (repeat (first | (refine arith_i ⟨by omega, by omega⟩ ?_; conv => whnf) | (refine need_i (by first | omega | (simp only [List.length_append, List.length_cons, List.length_nil]; omega)) ?_; conv => whnf) | ((with_reducible first | refine branch_tt ?_ | refine branch_ff ?_); conv => whnf) | (with_reducible refine branch_not ?_) | ((with_reducible first | refine slc_e ?_ | refine callS_a ?_ | refine bld_a ?_ | refine own_e ?_ | refine mkmap_b ?_); conv => whnf)))
      exact ret_p rfl (bool_eq (ch_fail (k := k) (by omega) (by simp [choiceAt, hn]; omega)).symm)
    · (conv => whnf); (repeat (first | (refine arith_i ⟨by omega, by omega⟩ ?_; conv => whnf) | (refine need_i (by first | omega | (simp only [List.length_append, List.length_cons, List.length_nil]; omega)) ?_; conv => whnf) | ((with_reducible first | refine branch_tt ?_ | refine branch_ff ?_); conv => whnf) | (with_reducible refine branch_not ?_) | ((with_reducible first | refine slc_e ?_ | refine callS_a ?_ | refine bld_a ?_ | refine own_e ?_ | refine mkmap_b ?_); conv => whnf)))
      refine branch_d (fun h2 => ?_) (fun h2 => ?_)
      · (conv => whnf); (repeat (first | (refine arith_i ⟨by omega, by omega⟩ ?_; conv => whnf) | (refine need_i (by first | omega | (simp only [List.length_append, List.length_cons, List.length_nil]; omega)) ?_; conv => whnf) | ((with_reducible first | refine branch_tt ?_ | refine branch_ff ?_); conv => whnf) | (with_reducible refine branch_not ?_) | ((with_reducible first | refine slc_e ?_ | refine callS_a ?_ | refine bld_a ?_ | refine own_e ?_ | refine mkmap_b ?_); conv => whnf)))
        exact ret_p rfl (bool_eq (ch_fail (k := k) (by omega) (by simp [choiceAt, hn]; omega)).symm)
      · (conv => whnf); (repeat (first | (refine arith_i ⟨by omega, by omega⟩ ?_; conv => whnf) | (refine need_i (by first | omega | (simp only [List.length_append, List.length_cons, List.length_nil]; omega)) ?_; conv => whnf) | ((with_reducible first | refine branch_tt ?_ | refine branch_ff ?_); conv => whnf) | (with_reducible refine branch_not ?_) | ((with_reducible first | refine slc_e ?_ | refine callS_a ?_ | refine bld_a ?_ | refine own_e ?_ | refine mkmap_b ?_); conv => whnf)))
        refine branch_d (fun h3 => ?_) (fun h3 => ?_)
        · (conv => whnf); (repeat (first | (refine arith_i ⟨by omega, by omega⟩ ?_; conv => whnf) | (refine need_i (by first | omega | (simp only [List.length_append, List.length_cons, List.length_nil]; omega)) ?_; conv => whnf) | ((with_reducible first | refine branch_tt ?_ | refine branch_ff ?_); conv => whnf) | (with_reducible refine branch_not ?_) | ((with_reducible first | refine slc_e ?_ | refine callS_a ?_ | refine bld_a ?_ | refine own_e ?_ | refine mkmap_b ?_); conv => whnf)))
          refine idx_m (by omega) (by omega) fun z hz => ?_
          have e1 : ((k : Int) - 1).toNat = k - 1 := by omega
          rw [e1] at hz
          have hz' := nth_eq hz
          (conv => whnf); (repeat (first | (refine arith_i ⟨by omega, by omega⟩ ?_; conv => whnf) | (refine need_i (by first | omega | (simp only [List.length_append, List.length_cons, List.length_nil]; omega)) ?_; conv => whnf) | ((with_reducible first | refine branch_tt ?_ | refine branch_ff ?_); conv => whnf) | (with_reducible refine branch_not ?_) | ((with_reducible first | refine slc_e ?_ | refine callS_a ?_ | refine bld_a ?_ | refine own_e ?_ | refine mkmap_b ?_); conv => whnf)))
          refine branch_d (fun h4 => ?_) (fun h4 => ?_)
          · (conv => whnf); (repeat (first | (refine arith_i ⟨by omega, by omega⟩ ?_; conv => whnf) | (refine need_i (by first | omega | (simp only [List.length_append, List.length_cons, List.length_nil]; omega)) ?_; conv => whnf) | ((with_reducible first | refine branch_tt ?_ | refine branch_ff ?_); conv => whnf) | (with_reducible refine branch_not ?_) | ((with_reducible first | refine slc_e ?_ | refine callS_a ?_ | refine bld_a ?_ | refine own_e ?_ | refine mkmap_b ?_); conv => whnf)))
            exact ret_p rfl (bool_eq (ch_fail (k := k) (by omega) (by simp [choiceAt, hn, hz']; omega)).symm)
          · (conv => whnf); (repeat (first | (refine arith_i ⟨by omega, by omega⟩ ?_; conv => whnf) | (refine need_i (by first | omega | (simp only [List.length_append, List.length_cons, List.length_nil]; omega)) ?_; conv => whnf) | ((with_reducible first | refine branch_tt ?_ | refine branch_ff ?_); conv => whnf) | (with_reducible refine branch_not ?_) | ((with_reducible first | refine slc_e ?_ | refine callS_a ?_ | refine bld_a ?_ | refine own_e ?_ | refine mkmap_b ?_); conv => whnf)))
            exact ⟨k + 1, ⟨by omega, hall.step (by simp [choiceAt, hn, hz']; omega)⟩, le_mk ⟨rfl, rfl, rfl, rfl, rfl, trivial⟩ trivial rfl, by omega⟩
        · (conv => whnf); (repeat (first | (refine arith_i ⟨by omega, by omega⟩ ?_; conv => whnf) | (refine need_i (by first | omega | (simp only [List.length_append, List.length_cons, List.length_nil]; omega)) ?_; conv => whnf) | ((with_reducible first | refine branch_tt ?_ | refine branch_ff ?_); conv => whnf) | (with_reducible refine branch_not ?_) | ((with_reducible first | refine slc_e ?_ | refine callS_a ?_ | refine bld_a ?_ | refine own_e ?_ | refine mkmap_b ?_); conv => whnf)))
          exact ⟨k + 1, ⟨by omega, hall.step (by have : k = 0 := by omega
                                                 simp [choiceAt, hn, this] at h1 h2 ⊢
                                                 subst this
                                                 simp [hn]
                                                 omega)⟩, le_mk ⟨rfl, rfl, rfl, rfl, rfl, trivial⟩ trivial rfl, by omega⟩
  · (conv => whnf); (repeat (first | (refine arith_i ⟨by omega, by omega⟩ ?_; conv => whnf) | (refine need_i (by first | omega | (simp only [List.length_append, List.length_cons, List.length_nil]; omega)) ?_; conv => whnf) | ((with_reducible first | refine branch_tt ?_ | refine branch_ff ?_); conv => whnf) | (with_reducible refine branch_not ?_) | ((with_reducible first | refine slc_e ?_ | refine callS_a ?_ | refine bld_a ?_ | refine own_e ?_ | refine mkmap_b ?_); conv => whnf)))
    exact ret_p rfl (bool_eq (hall.full (by omega)).symm)
theorem sumOver_ok (vs ch : List Int) (hl : ch.length ≤ 1000000) (hv : ∀ i, i < vs.length → -10000 ≤ nth vs i ∧ nth vs i ≤ 10000) (hc : ∀ i, i < ch.length → 0 ≤ nth ch i ∧ nth ch i < vs.length) : Good Try.prog TT false 27 [ints vs, ints ch] (· = .int .i64 (sumOf vs ch)) := by
  have L : (ch.map encI).length = ch.length := List.length_map ..
  have LV : (vs.map encI).length = vs.length := List.length_map ..
  refine good_of mixed tabOk Try.func27 rfl rfl Try.ntmps27 Try.results27 rfl rfl ?_
  (conv => whnf); (repeat (first | (refine arith_i ⟨by omega, by omega⟩ ?_; conv => whnf) | (refine need_i (by first | omega | (simp only [List.length_append, List.length_cons, List.length_nil]; omega)) ?_; conv => whnf) | ((with_reducible first | refine branch_tt ?_ | refine branch_ff ?_); conv => whnf) | (with_reducible refine branch_not ?_) | ((with_reducible first | refine slc_e ?_ | refine callS_a ?_ | refine bld_a ?_ | refine own_e ?_ | refine mkmap_b ?_); conv => whnf)))
  refine loop_i (fun k : Nat => k ≤ ch.length) (fun k => mkSt [(0, ints vs), (5, .int .i64 (sumTo vs ch k)), (8, ints ch), (9, .int .i64 (ch.map encI).length), (10, .int .i64 k)] [] false) (fun k => ch.length - k) 0 (Nat.zero_le _) (le_mk ⟨rfl, rfl, rfl, rfl, rfl, trivial⟩ trivial rfl) ?_
  intro k hk
  have bd := sumTo_bd (vs := vs) (ch := ch) (n := vs.length) hv k (fun i hi => hc i (by omega))
  (conv => whnf); (repeat (first | (refine arith_i ⟨by omega, by omega⟩ ?_; conv => whnf) | (refine need_i (by first | omega | (simp only [List.length_append, List.length_cons, List.length_nil]; omega)) ?_; conv => whnf) | ((with_reducible first | refine branch_tt ?_ | refine branch_ff ?_); conv => whnf) | (with_reducible refine branch_not ?_) | ((with_reducible first | refine slc_e ?_ | refine callS_a ?_ | refine bld_a ?_ | refine own_e ?_ | refine mkmap_b ?_); conv => whnf)))
  refine branch_d (fun h => ?_) (fun h => ?_)
  · (conv => whnf); (repeat (first | (refine arith_i ⟨by omega, by omega⟩ ?_; conv => whnf) | (refine need_i (by first | omega | (simp only [List.length_append, List.length_cons, List.length_nil]; omega)) ?_; conv => whnf) | ((with_reducible first | refine branch_tt ?_ | refine branch_ff ?_); conv => whnf) | (with_reducible refine branch_not ?_) | ((with_reducible first | refine slc_e ?_ | refine callS_a ?_ | refine bld_a ?_ | refine own_e ?_ | refine mkmap_b ?_); conv => whnf)))
    refine idx_m (by omega) (by omega) fun y hy => ?_
    rw [Int.toNat_natCast] at hy
    have hn := nth_eq hy
    have h1 := hc k (by omega)
    rw [hn] at h1
    (conv => whnf); (repeat (first | (refine arith_i ⟨by omega, by omega⟩ ?_; conv => whnf) | (refine need_i (by first | omega | (simp only [List.length_append, List.length_cons, List.length_nil]; omega)) ?_; conv => whnf) | ((with_reducible first | refine branch_tt ?_ | refine branch_ff ?_); conv => whnf) | (with_reducible refine branch_not ?_) | ((with_reducible first | refine slc_e ?_ | refine callS_a ?_ | refine bld_a ?_ | refine own_e ?_ | refine mkmap_b ?_); conv => whnf)))
    refine idx_m (by omega) (by omega) fun z hz => ?_
    have hz' := nth_eq hz
    have h2 := hv y.toNat (by omega)
    rw [hz'] at h2
    (conv => whnf); (repeat (first | (refine arith_i ⟨by omega, by omega⟩ ?_; conv => whnf) | (refine need_i (by first | omega | (simp only [List.length_append, List.length_cons, List.length_nil]; omega)) ?_; conv => whnf) | ((with_reducible first | refine branch_tt ?_ | refine branch_ff ?_); conv => whnf) | (with_reducible refine branch_not ?_) | ((with_reducible first | refine slc_e ?_ | refine callS_a ?_ | refine bld_a ?_ | refine own_e ?_ | refine mkmap_b ?_); conv => whnf)))
    exact ⟨k + 1, by omega, le_mk ⟨rfl, int_eq (by rw [sumTo, hn, hz']), rfl, rfl, rfl, trivial⟩ trivial rfl, by omega⟩
  · (conv => whnf); (repeat (first | (refine arith_i ⟨by omega, by omega⟩ ?_; conv => whnf) | (refine need_i (by first | omega | (simp only [List.length_append, List.length_cons, List.length_nil]; omega)) ?_; conv => whnf) | ((with_reducible first | refine branch_tt ?_ | refine branch_ff ?_); conv => whnf) | (with_reducible refine branch_not ?_) | ((with_reducible first | refine slc_e ?_ | refine callS_a ?_ | refine bld_a ?_ | refine own_e ?_ | refine mkmap_b ?_); conv => whnf)))
    exact ret_p rfl (int_eq (by rw [sumOf]; congr 1; omega))
theorem valid_rows {P : Prog} (h : validB P = true) {r : Row} (hr : r ∈ P.rows) : r.coefs.length = P.costs.length ∧ (∀ i, i < r.coefs.length → -10000 ≤ nth r.coefs i ∧ nth r.coefs i ≤ 10000) ∧ (-1000000 ≤ r.least ∧ r.least ≤ 1000000) ∧ (-1000000 ≤ r.most ∧ r.most ≤ 1000000) := by
  have h1 := List.all_eq_true.1 (validB_parts h).2.2.2 r hr
  obtain ⟨a, b, c, d⟩ := rowB_parts h1
  exact ⟨a, fun i hi => coefB_iff.1 (AllTo.of_all b i hi), boundB_iff.1 c, boundB_iff.1 d⟩
/-- A program that is not too long to look at. -/
def Fits (P : Prog) : Prop := P.costs.length ≤ 1000000 ∧ P.rows.length ≤ 1000000 ∧ ∀ r ∈ P.rows, r.coefs.length ≤ 1000000
theorem meets_ok (P : Prog) (ch : List Int) (hP : Fits P) (hl : ch.length ≤ 1000000) : Good Try.prog TT false 13 [progV P, ints ch] (· = .bool (meetsB P ch)) := by
  have L : (P.costs.map encI).length = P.costs.length := List.length_map ..
  have LR : (P.rows.map encRow).length = P.rows.length := List.length_map ..
  obtain ⟨hp1, hp2, hp3⟩ := hP
  refine good_of mixed tabOk Try.func13 rfl rfl Try.ntmps13 Try.results13 rfl rfl ?_
  (conv => whnf); (repeat (first | (refine arith_i ⟨by omega, by omega⟩ ?_; conv => whnf) | (refine need_i (by first | omega | (simp only [List.length_append, List.length_cons, List.length_nil]; omega)) ?_; conv => whnf) | ((with_reducible first | refine branch_tt ?_ | refine branch_ff ?_); conv => whnf) | (with_reducible refine branch_not ?_) | ((with_reducible first | refine slc_e ?_ | refine callS_a ?_ | refine bld_a ?_ | refine own_e ?_ | refine mkmap_b ?_); conv => whnf)))
  refine call_e (valid_ok P hp1 hp2 hp3) ?_
  (conv => whnf); (repeat (first | (refine arith_i ⟨by omega, by omega⟩ ?_; conv => whnf) | (refine need_i (by first | omega | (simp only [List.length_append, List.length_cons, List.length_nil]; omega)) ?_; conv => whnf) | ((with_reducible first | refine branch_tt ?_ | refine branch_ff ?_); conv => whnf) | (with_reducible refine branch_not ?_) | ((with_reducible first | refine slc_e ?_ | refine callS_a ?_ | refine bld_a ?_ | refine own_e ?_ | refine mkmap_b ?_); conv => whnf)))
  cases hv : validB P with
  | false =>
    (conv => whnf); (repeat (first | (refine arith_i ⟨by omega, by omega⟩ ?_; conv => whnf) | (refine need_i (by first | omega | (simp only [List.length_append, List.length_cons, List.length_nil]; omega)) ?_; conv => whnf) | ((with_reducible first | refine branch_tt ?_ | refine branch_ff ?_); conv => whnf) | (with_reducible refine branch_not ?_) | ((with_reducible first | refine slc_e ?_ | refine callS_a ?_ | refine bld_a ?_ | refine own_e ?_ | refine mkmap_b ?_); conv => whnf)))
    exact ret_p rfl (bool_eq (by simp [meetsB, hv]))
  | true =>
    (conv => whnf); (repeat (first | (refine arith_i ⟨by omega, by omega⟩ ?_; conv => whnf) | (refine need_i (by first | omega | (simp only [List.length_append, List.length_cons, List.length_nil]; omega)) ?_; conv => whnf) | ((with_reducible first | refine branch_tt ?_ | refine branch_ff ?_); conv => whnf) | (with_reducible refine branch_not ?_) | ((with_reducible first | refine slc_e ?_ | refine callS_a ?_ | refine bld_a ?_ | refine own_e ?_ | refine mkmap_b ?_); conv => whnf)))
    have hv' := validB_parts hv
    have e1 : (List.map encI P.costs).length = P.costs.length := L
    rw [L]
    refine call_e (isChoice_ok ch P.costs.length hl (by omega)) ?_
    (conv => whnf); (repeat (first | (refine arith_i ⟨by omega, by omega⟩ ?_; conv => whnf) | (refine need_i (by first | omega | (simp only [List.length_append, List.length_cons, List.length_nil]; omega)) ?_; conv => whnf) | ((with_reducible first | refine branch_tt ?_ | refine branch_ff ?_); conv => whnf) | (with_reducible refine branch_not ?_) | ((with_reducible first | refine slc_e ?_ | refine callS_a ?_ | refine bld_a ?_ | refine own_e ?_ | refine mkmap_b ?_); conv => whnf)))
    cases hc : choiceB ch P.costs.length with
    | false =>
      (conv => whnf); (repeat (first | (refine arith_i ⟨by omega, by omega⟩ ?_; conv => whnf) | (refine need_i (by first | omega | (simp only [List.length_append, List.length_cons, List.length_nil]; omega)) ?_; conv => whnf) | ((with_reducible first | refine branch_tt ?_ | refine branch_ff ?_); conv => whnf) | (with_reducible refine branch_not ?_) | ((with_reducible first | refine slc_e ?_ | refine callS_a ?_ | refine bld_a ?_ | refine own_e ?_ | refine mkmap_b ?_); conv => whnf)))
      exact ret_p rfl (bool_eq (by simp [meetsB, hc]))
    | true =>
      (conv => whnf); (repeat (first | (refine arith_i ⟨by omega, by omega⟩ ?_; conv => whnf) | (refine need_i (by first | omega | (simp only [List.length_append, List.length_cons, List.length_nil]; omega)) ?_; conv => whnf) | ((with_reducible first | refine branch_tt ?_ | refine branch_ff ?_); conv => whnf) | (with_reducible refine branch_not ?_) | ((with_reducible first | refine slc_e ?_ | refine callS_a ?_ | refine bld_a ?_ | refine own_e ?_ | refine mkmap_b ?_); conv => whnf)))
      refine loop_i (fun k : Nat => k ≤ P.rows.length ∧ AllR (meetB ch) P.rows k) (fun k => mkSt [(1, ints ch), (20, rowsV P.rows), (21, .int .i64 (P.rows.map encRow).length), (22, .int .i64 k)] [] false) (fun k => P.rows.length - k) 0 ⟨Nat.zero_le _, AllR.zero⟩ (le_mk ⟨rfl, rfl, rfl, rfl, trivial⟩ trivial rfl) ?_
      rintro j ⟨hj, hallr⟩
      (conv => whnf); (repeat (first | (refine arith_i ⟨by omega, by omega⟩ ?_; conv => whnf) | (refine need_i (by first | omega | (simp only [List.length_append, List.length_cons, List.length_nil]; omega)) ?_; conv => whnf) | ((with_reducible first | refine branch_tt ?_ | refine branch_ff ?_); conv => whnf) | (with_reducible refine branch_not ?_) | ((with_reducible first | refine slc_e ?_ | refine callS_a ?_ | refine bld_a ?_ | refine own_e ?_ | refine mkmap_b ?_); conv => whnf)))
      refine branch_d (fun h => ?_) (fun h => ?_)
      · (conv => whnf); (repeat (first | (refine arith_i ⟨by omega, by omega⟩ ?_; conv => whnf) | (refine need_i (by first | omega | (simp only [List.length_append, List.length_cons, List.length_nil]; omega)) ?_; conv => whnf) | ((with_reducible first | refine branch_tt ?_ | refine branch_ff ?_); conv => whnf) | (with_reducible refine branch_not ?_) | ((with_reducible first | refine slc_e ?_ | refine callS_a ?_ | refine bld_a ?_ | refine own_e ?_ | refine mkmap_b ?_); conv => whnf)))
        refine idx_m (by omega) (by omega) fun r hr => ?_
        rw [Int.toNat_natCast] at hr
        have hrow := rowAt_eq hr
        obtain ⟨r1, r2, r3, r4⟩ := valid_rows hv (List.mem_of_getElem? hr)
        have bad : meetB ch r = false → meetsB P ch = false := fun hb => by
          have : P.rows.all (meetB ch) = false := allR_fail (k := j) (by omega) (by rw [hrow]; exact hb)
          simp [meetsB, this]
        (conv => whnf); (repeat (first | (refine arith_i ⟨by omega, by omega⟩ ?_; conv => whnf) | (refine need_i (by first | omega | (simp only [List.length_append, List.length_cons, List.length_nil]; omega)) ?_; conv => whnf) | ((with_reducible first | refine branch_tt ?_ | refine branch_ff ?_); conv => whnf) | (with_reducible refine branch_not ?_) | ((with_reducible first | refine slc_e ?_ | refine callS_a ?_ | refine bld_a ?_ | refine own_e ?_ | refine mkmap_b ?_); conv => whnf)))
        refine call_e (sumOver_ok r.coefs ch hl r2 (fun i hi => by rw [r1]; exact choice_in hc hi)) ?_
        (conv => whnf); (repeat (first | (refine arith_i ⟨by omega, by omega⟩ ?_; conv => whnf) | (refine need_i (by first | omega | (simp only [List.length_append, List.length_cons, List.length_nil]; omega)) ?_; conv => whnf) | ((with_reducible first | refine branch_tt ?_ | refine branch_ff ?_); conv => whnf) | (with_reducible refine branch_not ?_) | ((with_reducible first | refine slc_e ?_ | refine callS_a ?_ | refine bld_a ?_ | refine own_e ?_ | refine mkmap_b ?_); conv => whnf)))
        refine branch_d (fun h1 => ?_) (fun h1 => ?_)
        · (conv => whnf); (repeat (first | (refine arith_i ⟨by omega, by omega⟩ ?_; conv => whnf) | (refine need_i (by first | omega | (simp only [List.length_append, List.length_cons, List.length_nil]; omega)) ?_; conv => whnf) | ((with_reducible first | refine branch_tt ?_ | refine branch_ff ?_); conv => whnf) | (with_reducible refine branch_not ?_) | ((with_reducible first | refine slc_e ?_ | refine callS_a ?_ | refine bld_a ?_ | refine own_e ?_ | refine mkmap_b ?_); conv => whnf)))
          exact ret_p rfl (bool_eq (bad (by simp [meetB]; omega)).symm)
        · (conv => whnf); (repeat (first | (refine arith_i ⟨by omega, by omega⟩ ?_; conv => whnf) | (refine need_i (by first | omega | (simp only [List.length_append, List.length_cons, List.length_nil]; omega)) ?_; conv => whnf) | ((with_reducible first | refine branch_tt ?_ | refine branch_ff ?_); conv => whnf) | (with_reducible refine branch_not ?_) | ((with_reducible first | refine slc_e ?_ | refine callS_a ?_ | refine bld_a ?_ | refine own_e ?_ | refine mkmap_b ?_); conv => whnf)))
          refine branch_d (fun h2 => ?_) (fun h2 => ?_)
          · (conv => whnf); (repeat (first | (refine arith_i ⟨by omega, by omega⟩ ?_; conv => whnf) | (refine need_i (by first | omega | (simp only [List.length_append, List.length_cons, List.length_nil]; omega)) ?_; conv => whnf) | ((with_reducible first | refine branch_tt ?_ | refine branch_ff ?_); conv => whnf) | (with_reducible refine branch_not ?_) | ((with_reducible first | refine slc_e ?_ | refine callS_a ?_ | refine bld_a ?_ | refine own_e ?_ | refine mkmap_b ?_); conv => whnf)))
            exact ret_p rfl (bool_eq (bad (by simp [meetB]; omega)).symm)
          · (conv => whnf); (repeat (first | (refine arith_i ⟨by omega, by omega⟩ ?_; conv => whnf) | (refine need_i (by first | omega | (simp only [List.length_append, List.length_cons, List.length_nil]; omega)) ?_; conv => whnf) | ((with_reducible first | refine branch_tt ?_ | refine branch_ff ?_); conv => whnf) | (with_reducible refine branch_not ?_) | ((with_reducible first | refine slc_e ?_ | refine callS_a ?_ | refine bld_a ?_ | refine own_e ?_ | refine mkmap_b ?_); conv => whnf)))
            exact ⟨j + 1, ⟨by omega, hallr.step (by rw [hrow]; simp [meetB]; omega)⟩, le_mk ⟨rfl, rfl, rfl, rfl, trivial⟩ trivial rfl, by omega⟩
      · (conv => whnf); (repeat (first | (refine arith_i ⟨by omega, by omega⟩ ?_; conv => whnf) | (refine need_i (by first | omega | (simp only [List.length_append, List.length_cons, List.length_nil]; omega)) ?_; conv => whnf) | ((with_reducible first | refine branch_tt ?_ | refine branch_ff ?_); conv => whnf) | (with_reducible refine branch_not ?_) | ((with_reducible first | refine slc_e ?_ | refine callS_a ?_ | refine bld_a ?_ | refine own_e ?_ | refine mkmap_b ?_); conv => whnf)))
        exact ret_p rfl (bool_eq (by simp [meetsB, hv, hc, hallr.full (by omega)]))
def spanV (cs st : List Int) : AV := .tup [.int .i64 (spanF cs st).1, .int .i64 (spanF cs st).2, .bool (spanB cs st)]
theorem span_ok (cs st : List Int) (lo hi : Int) (hl : cs.length ≤ 1000000) (hs : st.length ≤ 1000000) : Good Try.prog TT false 29 [.agg [ints cs, .int .i64 lo, .int .i64 hi], ints st] (· = spanV cs st) := by
  have L : (cs.map encI).length = cs.length := List.length_map ..
  have LS : (st.map encI).length = st.length := List.length_map ..
  have bad : spanB cs st = false → spanV cs st = .tup [.int .i64 0, .int .i64 0, .bool false] := fun h => by simp [spanV, spanF, h]
  refine good_of mixed tabOk Try.func29 rfl rfl Try.ntmps29 Try.results29 rfl rfl ?_
  (conv => whnf); (repeat (first | (refine arith_i ⟨by omega, by omega⟩ ?_; conv => whnf) | (refine need_i (by first | omega | (simp only [List.length_append, List.length_cons, List.length_nil]; omega)) ?_; conv => whnf) | ((with_reducible first | refine branch_tt ?_ | refine branch_ff ?_); conv => whnf) | (with_reducible refine branch_not ?_) | ((with_reducible first | refine slc_e ?_ | refine callS_a ?_ | refine bld_a ?_ | refine own_e ?_ | refine mkmap_b ?_); conv => whnf)))
  rw [L]
  refine call_e (isState_ok st cs.length hs hl) ?_
  (conv => whnf); (repeat (first | (refine arith_i ⟨by omega, by omega⟩ ?_; conv => whnf) | (refine need_i (by first | omega | (simp only [List.length_append, List.length_cons, List.length_nil]; omega)) ?_; conv => whnf) | ((with_reducible first | refine branch_tt ?_ | refine branch_ff ?_); conv => whnf) | (with_reducible refine branch_not ?_) | ((with_reducible first | refine slc_e ?_ | refine callS_a ?_ | refine bld_a ?_ | refine own_e ?_ | refine mkmap_b ?_); conv => whnf)))
  cases h1 : isStateB st cs.length with
  | false =>
    (conv => whnf); (repeat (first | (refine arith_i ⟨by omega, by omega⟩ ?_; conv => whnf) | (refine need_i (by first | omega | (simp only [List.length_append, List.length_cons, List.length_nil]; omega)) ?_; conv => whnf) | ((with_reducible first | refine branch_tt ?_ | refine branch_ff ?_); conv => whnf) | (with_reducible refine branch_not ?_) | ((with_reducible first | refine slc_e ?_ | refine callS_a ?_ | refine bld_a ?_ | refine own_e ?_ | refine mkmap_b ?_); conv => whnf)))
    exact ret_t (rs := [.int .i64 0, .int .i64 0, .bool false]) ⟨(rc_p rfl).g, (rc_p rfl).g, (rc_p rfl).g, trivial⟩ (bad (by simp [spanB, h1])).symm
  | true =>
    (conv => whnf); (repeat (first | (refine arith_i ⟨by omega, by omega⟩ ?_; conv => whnf) | (refine need_i (by first | omega | (simp only [List.length_append, List.length_cons, List.length_nil]; omega)) ?_; conv => whnf) | ((with_reducible first | refine branch_tt ?_ | refine branch_ff ?_); conv => whnf) | (with_reducible refine branch_not ?_) | ((with_reducible first | refine slc_e ?_ | refine callS_a ?_ | refine bld_a ?_ | refine own_e ?_ | refine mkmap_b ?_); conv => whnf)))
    refine call_e (validCoefs_ok cs hl) ?_
    (conv => whnf); (repeat (first | (refine arith_i ⟨by omega, by omega⟩ ?_; conv => whnf) | (refine need_i (by first | omega | (simp only [List.length_append, List.length_cons, List.length_nil]; omega)) ?_; conv => whnf) | ((with_reducible first | refine branch_tt ?_ | refine branch_ff ?_); conv => whnf) | (with_reducible refine branch_not ?_) | ((with_reducible first | refine slc_e ?_ | refine callS_a ?_ | refine bld_a ?_ | refine own_e ?_ | refine mkmap_b ?_); conv => whnf)))
    cases h2 : validCoefsB cs with
    | false =>
      (conv => whnf); (repeat (first | (refine arith_i ⟨by omega, by omega⟩ ?_; conv => whnf) | (refine need_i (by first | omega | (simp only [List.length_append, List.length_cons, List.length_nil]; omega)) ?_; conv => whnf) | ((with_reducible first | refine branch_tt ?_ | refine branch_ff ?_); conv => whnf) | (with_reducible refine branch_not ?_) | ((with_reducible first | refine slc_e ?_ | refine callS_a ?_ | refine bld_a ?_ | refine own_e ?_ | refine mkmap_b ?_); conv => whnf)))
      exact ret_t (rs := [.int .i64 0, .int .i64 0, .bool false]) ⟨(rc_p rfl).g, (rc_p rfl).g, (rc_p rfl).g, trivial⟩ (bad (by simp [spanB, h2])).symm
    | true =>
      (conv => whnf); (repeat (first | (refine arith_i ⟨by omega, by omega⟩ ?_; conv => whnf) | (refine need_i (by first | omega | (simp only [List.length_append, List.length_cons, List.length_nil]; omega)) ?_; conv => whnf) | ((with_reducible first | refine branch_tt ?_ | refine branch_ff ?_); conv => whnf) | (with_reducible refine branch_not ?_) | ((with_reducible first | refine slc_e ?_ | refine callS_a ?_ | refine bld_a ?_ | refine own_e ?_ | refine mkmap_b ?_); conv => whnf)))
      have hlen : st.length = cs.length ∧ cs.length ≤ 12 := by simp only [isStateB, Bool.and_eq_true, decide_eq_true_eq] at h1; exact h1.1
      have hcf := AllTo.of_all h2
      have good : spanV cs st = .tup [.int .i64 (spanTo cs st cs.length).1, .int .i64 (spanTo cs st cs.length).2, .bool true] := by simp [spanV, spanF, spanB, h1, h2]
      refine loop_i (fun k : Nat => k ≤ cs.length) (fun k => mkSt [(1, ints st), (4, .int .i64 (spanTo cs st k).1), (5, .int .i64 (spanTo cs st k).2), (22, ints cs), (23, .int .i64 (cs.map encI).length), (24, .int .i64 k)] [] false) (fun k => cs.length - k) 0 (Nat.zero_le _) (le_mk ⟨rfl, rfl, rfl, rfl, rfl, rfl, trivial⟩ trivial rfl) ?_
      intro k hk
      have bd := spanTo_bd (cs := cs) (st := st) k (fun i hi => hcf i (by omega))
      (conv => whnf); (repeat (first | (refine arith_i ⟨by omega, by omega⟩ ?_; conv => whnf) | (refine need_i (by first | omega | (simp only [List.length_append, List.length_cons, List.length_nil]; omega)) ?_; conv => whnf) | ((with_reducible first | refine branch_tt ?_ | refine branch_ff ?_); conv => whnf) | (with_reducible refine branch_not ?_) | ((with_reducible first | refine slc_e ?_ | refine callS_a ?_ | refine bld_a ?_ | refine own_e ?_ | refine mkmap_b ?_); conv => whnf)))
      refine branch_d (fun h => ?_) (fun h => ?_)
      · (conv => whnf); (repeat (first | (refine arith_i ⟨by omega, by omega⟩ ?_; conv => whnf) | (refine need_i (by first | omega | (simp only [List.length_append, List.length_cons, List.length_nil]; omega)) ?_; conv => whnf) | ((with_reducible first | refine branch_tt ?_ | refine branch_ff ?_); conv => whnf) | (with_reducible refine branch_not ?_) | ((with_reducible first | refine slc_e ?_ | refine callS_a ?_ | refine bld_a ?_ | refine own_e ?_ | refine mkmap_b ?_); conv => whnf)))
        refine idx_m (by omega) (by omega) fun y hy => ?_
        rw [Int.toNat_natCast] at hy
        have hn := nth_eq hy
        have hb := coefB_iff.1 (hcf k (by omega))
        rw [hn] at hb
        (conv => whnf); (repeat (first | (refine arith_i ⟨by omega, by omega⟩ ?_; conv => whnf) | (refine need_i (by first | omega | (simp only [List.length_append, List.length_cons, List.length_nil]; omega)) ?_; conv => whnf) | ((with_reducible first | refine branch_tt ?_ | refine branch_ff ?_); conv => whnf) | (with_reducible refine branch_not ?_) | ((with_reducible first | refine slc_e ?_ | refine callS_a ?_ | refine bld_a ?_ | refine own_e ?_ | refine mkmap_b ?_); conv => whnf)))
        refine idx_m (by omega) (by omega) fun z hz => ?_
        rw [Int.toNat_natCast] at hz
        have hz' := nth_eq hz
        (conv => whnf); (repeat (first | (refine arith_i ⟨by omega, by omega⟩ ?_; conv => whnf) | (refine need_i (by first | omega | (simp only [List.length_append, List.length_cons, List.length_nil]; omega)) ?_; conv => whnf) | ((with_reducible first | refine branch_tt ?_ | refine branch_ff ?_); conv => whnf) | (with_reducible refine branch_not ?_) | ((with_reducible first | refine slc_e ?_ | refine callS_a ?_ | refine bld_a ?_ | refine own_e ?_ | refine mkmap_b ?_); conv => whnf)))
        refine branch_e (fun e1 => ?_) (fun e1 => ?_)
        · (conv => whnf); (repeat (first | (refine arith_i ⟨by omega, by omega⟩ ?_; conv => whnf) | (refine need_i (by first | omega | (simp only [List.length_append, List.length_cons, List.length_nil]; omega)) ?_; conv => whnf) | ((with_reducible first | refine branch_tt ?_ | refine branch_ff ?_); conv => whnf) | (with_reducible refine branch_not ?_) | ((with_reducible first | refine slc_e ?_ | refine callS_a ?_ | refine bld_a ?_ | refine own_e ?_ | refine mkmap_b ?_); conv => whnf)))
          exact ⟨k + 1, by omega, le_mk ⟨rfl, int_eq (by rw [spanTo, hz', if_pos e1, hn]), int_eq (by rw [spanTo, hz', if_pos e1, hn]), rfl, rfl, rfl, trivial⟩ trivial rfl, by omega⟩
        · (conv => whnf); (repeat (first | (refine arith_i ⟨by omega, by omega⟩ ?_; conv => whnf) | (refine need_i (by first | omega | (simp only [List.length_append, List.length_cons, List.length_nil]; omega)) ?_; conv => whnf) | ((with_reducible first | refine branch_tt ?_ | refine branch_ff ?_); conv => whnf) | (with_reducible refine branch_not ?_) | ((with_reducible first | refine slc_e ?_ | refine callS_a ?_ | refine bld_a ?_ | refine own_e ?_ | refine mkmap_b ?_); conv => whnf)))
          refine branch_e (fun e2 => ?_) (fun e2 => ?_)
          · have m1 : (if (0 : Int) < y then 0 else y) = min y 0 := by split <;> omega
            have m2 : (if (0 : Int) > y then 0 else y) = max y 0 := by split <;> omega
            (conv => whnf)
            rw [m1]
            (conv => whnf); (repeat (first | (refine arith_i ⟨by omega, by omega⟩ ?_; conv => whnf) | (refine need_i (by first | omega | (simp only [List.length_append, List.length_cons, List.length_nil]; omega)) ?_; conv => whnf) | ((with_reducible first | refine branch_tt ?_ | refine branch_ff ?_); conv => whnf) | (with_reducible refine branch_not ?_) | ((with_reducible first | refine slc_e ?_ | refine callS_a ?_ | refine bld_a ?_ | refine own_e ?_ | refine mkmap_b ?_); conv => whnf)))
            rw [m2]
            (conv => whnf); (repeat (first | (refine arith_i ⟨by omega, by omega⟩ ?_; conv => whnf) | (refine need_i (by first | omega | (simp only [List.length_append, List.length_cons, List.length_nil]; omega)) ?_; conv => whnf) | ((with_reducible first | refine branch_tt ?_ | refine branch_ff ?_); conv => whnf) | (with_reducible refine branch_not ?_) | ((with_reducible first | refine slc_e ?_ | refine callS_a ?_ | refine bld_a ?_ | refine own_e ?_ | refine mkmap_b ?_); conv => whnf)))
            exact ⟨k + 1, by omega, le_mk ⟨rfl, int_eq (by rw [spanTo, hz', if_neg e1, if_pos e2, hn]), int_eq (by rw [spanTo, hz', if_neg e1, if_pos e2, hn]), rfl, rfl, rfl, trivial⟩ trivial rfl, by omega⟩
          · (conv => whnf); (repeat (first | (refine arith_i ⟨by omega, by omega⟩ ?_; conv => whnf) | (refine need_i (by first | omega | (simp only [List.length_append, List.length_cons, List.length_nil]; omega)) ?_; conv => whnf) | ((with_reducible first | refine branch_tt ?_ | refine branch_ff ?_); conv => whnf) | (with_reducible refine branch_not ?_) | ((with_reducible first | refine slc_e ?_ | refine callS_a ?_ | refine bld_a ?_ | refine own_e ?_ | refine mkmap_b ?_); conv => whnf)))
            exact ⟨k + 1, by omega, le_mk ⟨rfl, int_eq (by rw [spanTo, hz', if_neg e1, if_neg e2]), int_eq (by rw [spanTo, hz', if_neg e1, if_neg e2]), rfl, rfl, rfl, trivial⟩ trivial rfl, by omega⟩
      · (conv => whnf); (repeat (first | (refine arith_i ⟨by omega, by omega⟩ ?_; conv => whnf) | (refine need_i (by first | omega | (simp only [List.length_append, List.length_cons, List.length_nil]; omega)) ?_; conv => whnf) | ((with_reducible first | refine branch_tt ?_ | refine branch_ff ?_); conv => whnf) | (with_reducible refine branch_not ?_) | ((with_reducible first | refine slc_e ?_ | refine callS_a ?_ | refine bld_a ?_ | refine own_e ?_ | refine mkmap_b ?_); conv => whnf)))
        have hk' : k = cs.length := by omega
        subst hk'
        exact ret_t (rs := [.int .i64 (spanTo cs st cs.length).1, .int .i64 (spanTo cs st cs.length).2, .bool true]) ⟨(rc_p rfl).g, (rc_p rfl).g, (rc_p rfl).g, trivial⟩ good.symm
end Go.Proofs.Ytjbmdaoppiinbaa
end
