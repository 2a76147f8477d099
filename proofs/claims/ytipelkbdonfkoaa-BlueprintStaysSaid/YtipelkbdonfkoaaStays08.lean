/- Layer 8, the plain law behind BlueprintStays: deciding an option never revives a dead state. No program in sight. -/
import Derived.Test.YtipelkbdonfkoaaDead08
import Derived.Test.YtipelkbdonfkoaaGen
namespace Go.Proofs.Ytipelkbdonfkoaa
set_option linter.unusedVariables false

theorem firstFrom_range {st : List Int} : ∀ (rows : List Row) (k : Nat), firstFrom st k rows = -1 ∨ (k : Int) ≤ firstFrom st k rows
  | [], _ => .inl rfl
  | r :: rs, k => by
    rw [firstFrom]
    split
    · exact .inr (Int.le_refl _)
    · rcases firstFrom_range (st := st) rs (k + 1) with h | h
      · exact .inl h
      · exact .inr (by omega)
theorem dead_iff {P : Prog} {st : List Int} : 0 ≤ deadF P st ↔ deadB P st = true ∧ ∃ j, j < P.rows.length ∧ blockedB st (rowAt P.rows j) = true := by
  unfold deadF
  cases hd : deadB P st with
  | false => simp
  | true =>
    simp only [if_true, true_and]
    constructor
    · intro h
      rcases Classical.em (∃ j, j < P.rows.length ∧ blockedB st (rowAt P.rows j) = true) with he | he
      · exact he
      · rw [firstFrom_none P.rows 0 fun i hi => by
          cases hb : blockedB st (rowAt P.rows i) with
          | false => rfl
          | true => exact absurd ⟨i, hi, hb⟩ he] at h
        omega
    · rintro ⟨j, hj, hb⟩
      rcases firstFrom_range (st := st) P.rows 0 with h | h
      · exfalso
        -- the least blocked row
        have : ∃ i, i < P.rows.length ∧ blockedB st (rowAt P.rows i) = true ∧ ∀ i', i' < i → blockedB st (rowAt P.rows i') = false := by
          induction j using Nat.strongRecOn with
          | ind j ih =>
            rcases Classical.em (∃ i', i' < j ∧ blockedB st (rowAt P.rows i') = true) with he | he
            · obtain ⟨i', h1, h2⟩ := he
              exact ih i' h1 (by omega) h2
            · exact ⟨j, hj, hb, fun i' hi' => by
                cases hbb : blockedB st (rowAt P.rows i') with
                | false => rfl
                | true => exact absurd ⟨i', hi', hbb⟩ he⟩
        obtain ⟨i, h1, h2, h3⟩ := this
        rw [firstFrom_at P.rows 0 i h1 h3 h2] at h
        omega
      · omega
theorem dead_neg {P : Prog} {st : List Int} : deadF P st = -1 ∨ 0 ≤ deadF P st := by
  unfold deadF
  split
  · rcases firstFrom_range (st := st) P.rows 0 with h | h
    · exact .inl h
    · exact .inr (by omega)
  · exact .inl rfl
/-- st' is st with one undecided option decided. -/
structure Decides (st st' : List Int) : Prop where
  len : st'.length = st.length
  at_ : ∃ k, nth st k = -1 ∧ (nth st' k = 0 ∨ nth st' k = 1) ∧ ∀ i, i ≠ k → nth st' i = nth st i
theorem span_decides {cs st st' : List Int} (h : Decides st st') (m : Nat) : (spanTo cs st m).1 ≤ (spanTo cs st' m).1 ∧ (spanTo cs st' m).2 ≤ (spanTo cs st m).2 := by
  obtain ⟨k, h1, h2, h3⟩ := h.at_
  induction m with
  | zero => simp [spanTo]
  | succ m ih =>
    rw [spanTo, spanTo]
    by_cases e : m = k
    · subst e
      rw [if_neg (by omega : ¬ nth st m = 1), if_pos h1]
      rcases h2 with h2 | h2
      · rw [if_neg (by omega), if_neg (by omega)]; simp only; omega
      · rw [if_pos h2]; simp only; omega
    · rw [h3 m e]
      split
      · simp only; omega
      · split
        · simp only; omega
        · exact ih
theorem state_decides {st st' : List Int} {n : Nat} (h : Decides st st') (hs : isStateB st n = true) : isStateB st' n = true := by
  simp only [isStateB, Bool.and_eq_true, decide_eq_true_eq] at hs ⊢
  refine ⟨⟨by rw [h.len]; exact hs.1.1, hs.1.2⟩, ?_⟩
  obtain ⟨k, h1, h2, h3⟩ := h.at_
  have ht := AllTo.of_all hs.2
  refine AllTo.full (k := st'.length) (fun i hi => ?_) (Nat.le_refl _)
  by_cases e : i = k
  · subst e
    rw [triB_iff]
    omega
  · rw [h3 i e]
    exact ht i (by rw [← h.len]; exact hi)
theorem dead_stays {P : Prog} {st st' : List Int} (h : Decides st st') (hd : 0 ≤ deadF P st) : 0 ≤ deadF P st' := by
  rw [dead_iff] at hd ⊢
  obtain ⟨h1, j, hj, hb⟩ := hd
  simp only [deadB, Bool.and_eq_true] at h1
  have hs' := state_decides h h1.2
  refine ⟨by simp [deadB, h1.1, hs'], j, hj, ?_⟩
  have o1 := spanB_of h1.1 h1.2 hj
  have o2 := spanB_of h1.1 hs' hj
  have sp := span_decides (cs := (rowAt P.rows j).coefs) h (rowAt P.rows j).coefs.length
  simp only [blockedB, spanF, o1, o2, if_true, Bool.true_and, Bool.or_eq_true, decide_eq_true_eq] at hb ⊢
  omega
theorem nth_set {xs : List Int} {k i : Nat} {y : Int} : nth (xs.set k y) i = if i = k ∧ k < xs.length then y else nth xs i := by
  simp only [nth, List.getD_eq_getElem?_getD, List.getElem?_set]
  split
  · next h =>
    subst h
    split
    · next h => simp [h]
    · next h => simp [h]
  · next h => rw [if_neg (by omega)]
theorem decides_set {st : List Int} {k : Nat} {y : Int} (hk : k < st.length) (h : nth st k = -1) (hy : y = 0 ∨ y = 1) : Decides st (st.set k y) :=
  ⟨by simp, k, h, by rw [nth_set, if_pos ⟨rfl, hk⟩]; exact hy, fun i hi => by rw [nth_set, if_neg (by omega)]⟩
theorem good_valid {P : Prog} {most : Nat} (h : GoodProg most P) (hm : most ≤ 12) : validB P = true := by
  obtain ⟨⟨h1, h2⟩, h3, h4⟩ := h
  have e1 : P.costs.all costB = true := by
    rw [List.all_eq_true]
    intro x hx
    rw [costB_iff]
    exact h2 x hx
  have e2 : P.rows.all (rowB P.costs.length) = true := by
    rw [List.all_eq_true]
    intro r hr
    obtain ⟨g1, g2, g3, g4⟩ := h3 r hr
    have e3 : validCoefsB r.coefs = true := by
      rw [validCoefsB, List.all_eq_true]
      intro x hx
      have := g2 x hx
      rw [coefB_iff]
      omega
    have e4 : boundB r.least = true := by rw [boundB_iff]; omega
    have e5 : boundB r.most = true := by rw [boundB_iff]; omega
    simp [rowB, g1, e3, e4, e5]
  have h12 : P.costs.length ≤ 12 := by omega
  have h60 : P.rows.length ≤ 60 := by omega
  simp [validB, e1, e2, h12, h60]
end Go.Proofs.Ytipelkbdonfkoaa
