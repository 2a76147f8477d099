/- Layer 25, plainly: sets that are short, and the sets that a number's bits tell. -/
import Derived.Test.YtkbkdlkfpmcmdaaGL25t
import Derived.Test.YtkbkdlkfpmcmdaaGL25x
namespace Go.Proofs.Ytkbkdlkfpmcmdaa
set_option linter.unusedVariables false
set_option linter.unusedSimpArgs false
set_option linter.unnecessarySimpa false
set_option linter.unusedSectionVars false
set_option maxRecDepth 10000
def setR (R : Nat → Bool) (n : Nat) : List Int := ((List.range n).filter R).map fun j : Nat => (j : Int)
theorem setR_next {R : Nat → Bool} {n : Nat} : setR R (n + 1) = setR R n ++ if R n = true then [(n : Int)] else [] := by
  unfold setR; rw [List.range_succ, List.filter_append, List.map_append]
  by_cases h : R n = true <;> simp [h]
theorem setR_len {R : Nat → Bool} : ∀ {n : Nat}, (setR R n).length = sumN n fun j => (R j).toNat
  | 0 => rfl
  | n + 1 => by
    rw [setR_next, List.length_append, setR_len]
    show _ = sumN n _ + (R n).toNat
    cases R n <;> simp
theorem setR_le {R : Nat → Bool} {n : Nat} : (setR R n).length ≤ n := by rw [setR_len]; exact sumN_bool
theorem setR_lt {R : Nat → Bool} {n t : Nat} (h : t < (setR R n).length) : 0 ≤ nth (setR R n) t ∧ nth (setR R n) t < n := by
  have hm : nth (setR R n) t ∈ setR R n := by
    have e := nth_eq (List.getElem?_eq_getElem h)
    rw [e]; exact List.getElem_mem _
  unfold setR at hm ⊢
  simp only [List.mem_map, List.mem_filter, List.mem_range] at hm
  obtain ⟨j, ⟨h1, -⟩, h2⟩ := hm
  omega
theorem setR_asc {R : Nat → Bool} {n : Nat} : (setR R n).Pairwise (· < ·) := by
  unfold setR
  rw [List.pairwise_map]
  exact (List.pairwise_lt_range.filter R).imp fun h => by omega
theorem setR_set {R : Nat → Bool} {n : Nat} : ∀ {k : Nat}, k ≤ (setR R n).length → setB (setR R n) n k = true
  | 0, _ => rfl
  | k + 1, h => by
    rw [setB, setR_set (by omega)]
    have h1 := setR_lt (R := R) (n := n) (t := k) (by omega)
    simp only [Bool.and_eq_true, Bool.or_eq_true, decide_eq_true_eq]
    refine ⟨⟨⟨trivial, h1.1⟩, h1.2⟩, ?_⟩
    rcases Nat.eq_zero_or_pos k with g | g
    · exact .inl g
    · refine .inr ?_
      have := List.pairwise_iff_getElem.1 (setR_asc (R := R) (n := n)) (k - 1) k (by omega) (by omega) (by omega)
      rw [nth_eq (List.getElem?_eq_getElem (show k - 1 < (setR R n).length by omega)), nth_eq (List.getElem?_eq_getElem (show k < (setR R n).length by omega))]
      exact this
theorem nth_app {a b : List Int} {t : Nat} (h : t < a.length) : nth (a ++ b) t = nth a t := by
  rw [nth_eq (List.getElem?_eq_getElem h), nth_eq ((List.getElem?_append_left h).trans (List.getElem?_eq_getElem h))]
theorem setR_cnt {l : List Mrk} {s : List Scr} {R : Nat → Bool} {m : Nat} : ∀ {n : Nat}, cntF l s (setR R n) m (setR R n).length = sumN n fun j => (R j && elF l s j m).toNat
  | 0 => rfl
  | n + 1 => by
    have ih := setR_cnt (l := l) (s := s) (R := R) (m := m) (n := n)
    show _ = sumN n _ + (R n && elF l s n m).toNat
    rw [← ih, setR_next]
    cases h : R n with
    | false => simp
    | true =>
      rw [if_pos rfl, List.length_append]
      show sumN (setR R n).length _ + _ = _
      have e1 : (sumN (setR R n).length fun t => (elF l s (nth (setR R n ++ [(n : Int)]) t).toNat m).toNat) = cntF l s (setR R n) m (setR R n).length := sumN_congr fun t ht => by rw [nth_app ht]
      have e2 : nth (setR R n ++ [(n : Int)]) (setR R n).length = n := nth_eq (by simp)
      rw [e1, Bool.true_and]
      show _ + (elF l s (nth (setR R n ++ [(n : Int)]) (setR R n).length).toNat m).toNat = _
      rw [e2]; rfl
theorem setR_room {l : List Mrk} {s : List Scr} {R : Nat → Bool} : roomF l s (setR R s.length) l.length = sumN l.length fun m => min (limF (capF l) s.length m) (sumN s.length fun j => (R j && elF l s j m).toNat) :=
  sumN_congr fun m _ => by
    rw [setR_cnt]
    have : (sumN s.length fun j => (R j && elF l s j m).toNat) ≤ s.length := sumN_bool
    simp only [limF]; omega
/-- A set is short exactly if it breaks Hall's condition. -/
theorem short_iff {l : List Mrk} {s : List Scr} {q : Nat} (hq1 : 1 ≤ q) (hq2 : q ≤ 2) {R : Nat → Bool} : shortB l s q (setR R s.length) = true ↔ (sumN l.length fun m => min (limF (capF l) s.length m) (sumN s.length fun j => (R j && elF l s j m).toNat)) < q * sumN s.length fun j => (R j).toNat := by
  have hk : okK (q : Int) = true := by simp [okK]; omega
  rw [shortB, hk, setR_set (Nat.le_refl _), setR_room]
  simp only [Bool.true_and, Bool.and_true, Bool.and_eq_true, decide_eq_true_eq]
  rw [← setR_len (R := R) (n := s.length)]
  constructor
  · rintro ⟨-, h⟩
    exact_mod_cast h
  · intro h
    refine ⟨fun e => ?_, by exact_mod_cast h⟩
    rw [e] at h; simp at h
theorem hall_iff {l : List Mrk} {s : List Scr} {q : Nat} (hq1 : 1 ≤ q) (hq2 : q ≤ 2) : (witP l s q).1 = none ↔ ∀ R : Nat → Bool, shortB l s q (setR R s.length) = false := by
  unfold witP
  rw [fill_iff]
  constructor
  · intro h R
    rw [Bool.eq_false_iff, Ne, short_iff hq1 hq2]
    have := h R
    omega
  · intro h R
    have := h R
    rw [Bool.eq_false_iff, Ne, short_iff hq1 hq2] at this
    omega
theorem wit_short {l : List Mrk} {s : List Scr} {q i : Nat} {F : Flw} (hq1 : 1 ≤ q) (hq2 : q ≤ 2) (h : witP l s q = (some i, F)) : shortB l s q (setW l i F s.length) = true :=
  (short_iff hq1 hq2 (R := reachB l.length i F)).2 (fill_lost (k := 0) rfl upto_0 h).2
theorem wit_least {l : List Mrk} {s : List Scr} {q : Nat} (hq1 : 1 ≤ q) (hq2 : q ≤ 2) : lstF l s q = none ↔ (witP l s q).1 ≠ none := by
  have hk : okK (q : Int) = true := by simp [okK]; omega
  rw [lstF, if_pos hk, Int.toNat_natCast, least_none, okF, witP, Option.isNone_eq_false_iff, Option.isSome_iff_ne_none]
theorem bits_ex (R : Nat → Bool) : ∀ n : Nat, ∃ b, b < 2 ^ n ∧ ∀ i, i < n → b.testBit i = R i
  | 0 => ⟨0, by simp, fun i h => absurd h (by omega)⟩
  | n + 1 => by
    obtain ⟨b, h1, h2⟩ := bits_ex R n
    refine ⟨b + (R n).toNat * 2 ^ n, ?_, fun i hi => ?_⟩
    · rw [Nat.pow_succ]; cases R n <;> simp <;> omega
    · cases hR : R n with
      | false =>
        simp only [Bool.toNat_false, Nat.zero_mul, Nat.add_zero]
        rcases Nat.lt_or_ge i n with g | g
        · exact h2 i g
        · obtain rfl : i = n := by omega
          rw [hR]; exact Nat.testBit_lt_two_pow h1
      | true =>
        simp only [Bool.toNat_true, Nat.one_mul]
        rw [Nat.add_comm]
        rcases Nat.lt_or_ge i n with g | g
        · rw [Nat.testBit_two_pow_add_gt g]; exact h2 i g
        · obtain rfl : i = n := by omega
          rw [Nat.testBit_two_pow_add_eq, Nat.testBit_lt_two_pow h1, hR]; rfl
theorem setR_congr {R R' : Nat → Bool} {n : Nat} (h : ∀ i, i < n → R i = R' i) : setR R n = setR R' n := by
  unfold setR
  rw [List.filter_congr fun x hx => h x (List.mem_range.1 hx)]
/-- Whether a set is short that a number below b tells. -/
def someB (l : List Mrk) (s : List Scr) (q : Nat) : Nat → Bool
  | 0 => false
  | b + 1 => someB l s q b || shortB l s q (setR (fun i => b.testBit i) s.length)
theorem someB_iff {l : List Mrk} {s : List Scr} {q : Nat} : ∀ {b : Nat}, someB l s q b = true ↔ ∃ c, c < b ∧ shortB l s q (setR (fun i => c.testBit i) s.length) = true
  | 0 => by simp [someB]
  | b + 1 => by
    rw [someB, Bool.or_eq_true, someB_iff]
    constructor
    · rintro (⟨c, h1, h2⟩ | h)
      · exact ⟨c, by omega, h2⟩
      · exact ⟨b, by omega, h⟩
    · rintro ⟨c, h1, h2⟩
      rcases Nat.lt_or_ge c b with g | g
      · exact .inl ⟨c, g, h2⟩
      · obtain rfl : c = b := by omega
        exact .inr h2
theorem some_hall {l : List Mrk} {s : List Scr} {q : Nat} (hq1 : 1 ≤ q) (hq2 : q ≤ 2) : someB l s q (2 ^ s.length) = (witP l s q).1.isSome := by
  rw [Bool.eq_iff_iff, someB_iff]
  constructor
  · rintro ⟨c, -, h⟩
    rw [Option.isSome_iff_ne_none]
    intro e
    rw [(hall_iff hq1 hq2).1 e] at h; cases h
  · intro h
    rw [Option.isSome_iff_ne_none] at h
    refine Classical.byContradiction fun hn => h ((hall_iff hq1 hq2).2 fun R => ?_)
    obtain ⟨b, h1, h2⟩ := bits_ex R s.length
    cases e : shortB l s q (setR R s.length) with
    | false => rfl
    | true => exact absurd ⟨b, h1, by rw [setR_congr h2]; exact e⟩ hn
theorem some_one {l : List Mrk} {s : List Scr} {q : Nat} : someB l s q 1 = false := by
  show (false || shortB l s q (setR (fun i => Nat.testBit 0 i) s.length)) = false
  have e : setR (fun i => Nat.testBit 0 i) s.length = [] := by unfold setR; simp
  rw [e, shortB]; simp
end Go.Proofs.Ytkbkdlkfpmcmdaa
