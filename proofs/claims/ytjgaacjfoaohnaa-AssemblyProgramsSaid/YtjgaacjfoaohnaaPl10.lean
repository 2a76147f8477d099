/- Layer 10, plain: the choices in ascending order, the cheapest one. No program in sight. -/
import Derived.Test.YtjgaacjfoaohnaaPl08
namespace Go.Proofs.Ytjgaacjfoaohnaa
set_option linter.unusedVariables false
set_option linter.unusedSimpArgs false
set_option linter.unnecessarySimpa false
set_option linter.unusedSectionVars false

/-- Whether a choice meets all rows. -/
def metB (P : Prog) (ch : List Int) : Bool := P.rows.all (meetB ch)
def here (P : Prog) (ch : List Int) : List (List Int) := if metB P ch then [ch] else []
/-- The choices that begin with ch and go on with options from a number on, m of them at most; ascending. -/
def loopF (P : Prog) : Nat → List Int → Nat → List (List Int)
  | 0, _, _ => []
  | m + 1, ch, i => here P (ch ++ [(i : Int)]) ++ loopF P m (ch ++ [(i : Int)]) (i + 1) ++ loopF P m ch (i + 1)
def visF (P : Prog) (ch : List Int) (i : Nat) : List (List Int) := here P ch ++ loopF P (P.costs.length - i) ch i
/-- All choices that meet the rows. -/
def allF (P : Prog) : List (List Int) := visF P [] 0
/-- The cheapest so far: found, cost, choice. -/
def bestS (P : Prog) (σ : Bool × Int × List Int) (ch : List Int) : Bool × Int × List Int :=
  if σ.1 = false ∨ sumOf P.costs ch < σ.2.1 then (true, sumOf P.costs ch, ch) else σ
def bestF (P : Prog) : Bool × Int × List Int := (allF P).foldl (bestS P) (false, 0, [])

/-- Ascending options within bounds. -/
def Asc (lo hi : Nat) (ch : List Int) : Prop := ch.Pairwise (· < ·) ∧ ∀ x ∈ ch, (lo : Int) ≤ x ∧ x < hi
theorem asc_choice {n : Nat} {ch : List Int} (h : Asc 0 n ch) : choiceB ch n = true := choice_of_asc h.1 fun x hx => by have := h.2 x hx; omega
theorem Asc.snoc {i n : Nat} {ch : List Int} (h : Asc 0 i ch) (hi : i < n) : Asc 0 (i + 1) (ch ++ [(i : Int)]) := by
  refine ⟨List.pairwise_append.2 ⟨h.1, List.pairwise_singleton _ _, fun x hx y hy => ?_⟩, fun x hx => ?_⟩
  · rw [List.mem_singleton.1 hy]; exact (h.2 x hx).2
  · rcases List.mem_append.1 hx with hx | hx
    · have := h.2 x hx; omega
    · rw [List.mem_singleton.1 hx]; omega
theorem Asc.mono {lo hi hi' : Nat} {ch : List Int} (h : Asc lo hi ch) (hh : hi ≤ hi') : Asc lo hi' ch := ⟨h.1, fun x hx => by have := h.2 x hx; omega⟩
/-- What is in the list. -/
theorem loop_mem {P : Prog} {c : List Int} : ∀ {m : Nat} {ch : List Int} {i : Nat}, c ∈ loopF P m ch i ↔ ∃ t, t ≠ [] ∧ Asc i (i + m) t ∧ c = ch ++ t ∧ metB P c = true
  | 0, ch, i => by
    simp only [loopF, List.not_mem_nil, false_iff]
    rintro ⟨t, h0, h1, -, -⟩
    cases t with
    | nil => exact h0 rfl
    | cons x t => have := h1.2 x (by simp); omega
  | m + 1, ch, i => by
    simp only [loopF, List.mem_append, loop_mem (m := m)]
    constructor
    · rintro ((h | ⟨t, h0, h1, h2, h3⟩) | ⟨t, h0, h1, h2, h3⟩)
      · simp only [here] at h
        split at h
        · next hm =>
          rw [List.mem_singleton.1 h]
          exact ⟨[(i : Int)], by simp, ⟨List.pairwise_singleton _ _, fun x hx => by rw [List.mem_singleton.1 hx]; omega⟩, rfl, hm⟩
        · simp at h
      · refine ⟨(i : Int) :: t, by simp, ⟨List.pairwise_cons.2 ⟨fun x hx => by have := h1.2 x hx; omega, h1.1⟩, fun x hx => ?_⟩, by rw [h2]; simp, h3⟩
        rcases List.mem_cons.1 hx with rfl | hx
        · omega
        · have := h1.2 x hx; omega
      · exact ⟨t, h0, ⟨h1.1, fun x hx => by have := h1.2 x hx; omega⟩, h2, h3⟩
    · rintro ⟨t, h0, h1, h2, h3⟩
      cases t with
      | nil => exact absurd rfl h0
      | cons x t =>
        have hx := h1.2 x (by simp)
        have hp := List.pairwise_cons.1 h1.1
        by_cases e : x = i
        · subst e
          left
          by_cases ht : t = []
          · subst ht
            left
            simp only [here]
            rw [h2] at h3
            rw [if_pos h3, h2]
            simp
          · right
            exact ⟨t, ht, ⟨hp.2, fun y hy => by have := hp.1 y hy; have := h1.2 y (by simp [hy]); omega⟩, by rw [h2]; simp, h3⟩
        · right
          exact ⟨x :: t, by simp, ⟨h1.1, fun y hy => by
            have h4 := h1.2 y hy
            rcases List.mem_cons.1 hy with rfl | hy
            · omega
            · have := hp.1 y hy; omega⟩, h2, h3⟩
theorem all_mem {P : Prog} {c : List Int} : c ∈ allF P ↔ Asc 0 P.costs.length c ∧ metB P c = true := by
  simp only [allF, visF, List.mem_append, loop_mem, here]
  constructor
  · rintro (h | ⟨t, h0, h1, h2, h3⟩)
    · split at h
      · next hm => rw [List.mem_singleton.1 h]; exact ⟨⟨List.Pairwise.nil, by simp⟩, hm⟩
      · simp at h
    · rw [List.nil_append] at h2
      subst h2
      exact ⟨⟨h1.1, fun x hx => by have := h1.2 x hx; omega⟩, h3⟩
  · rintro ⟨h1, h2⟩
    by_cases hc : c = []
    · subst hc; left; rw [if_pos h2]; simp
    · right
      exact ⟨c, hc, ⟨h1.1, fun x hx => by have := h1.2 x hx; omega⟩, by simp, h2⟩
theorem meets_asc {P : Prog} {c : List Int} (hv : validB P = true) (h : Asc 0 P.costs.length c) : meetsB P c = metB P c := by
  simp only [meetsB, hv, asc_choice h, Bool.true_and, metB]
theorem all_meets {P : Prog} {c : List Int} (hv : validB P = true) (h : c ∈ allF P) : meetsB P c = true ∧ costF P c = sumOf P.costs c ∧ Asc 0 P.costs.length c := by
  obtain ⟨h1, h2⟩ := all_mem.1 h
  exact ⟨by rw [meets_asc hv h1]; exact h2, by rw [costF, if_pos]; simp [costOk, hv, asc_choice h1], h1⟩
theorem sub_Asc (t n : Nat) : Asc 0 n (subTo t n) := ⟨sub_asc t n, fun x hx => by
  obtain ⟨i, h1, h2, _⟩ := mem_sub.1 hx
  subst h2
  omega⟩
/-! in ascending order -/
def befB : List Int → List Int → Bool
  | x :: a, y :: b => if x = y then befB a b else decide (x < y)
  | [], _ :: _ => true
  | _, [] => false
theorem bef_pre (p a b : List Int) : befB (p ++ a) (p ++ b) = befB a b := by
  induction p with
  | nil => rfl
  | cons x p ih => simp only [List.cons_append, befB, if_pos, ih]
theorem loop_sorted {P : Prog} : ∀ {m : Nat} {ch : List Int} {i : Nat}, (loopF P m ch i).Pairwise (fun a b => befB a b = true)
  | 0, ch, i => by simp [loopF]
  | m + 1, ch, i => by
    simp only [loopF]
    refine List.pairwise_append.2 ⟨List.pairwise_append.2 ⟨?_, loop_sorted, fun a ha b hb => ?_⟩, loop_sorted, fun a ha b hb => ?_⟩
    · simp only [here]; split <;> simp
    · simp only [here] at ha
      split at ha
      · rw [List.mem_singleton.1 ha]
        obtain ⟨t, h0, h1, h2, h3⟩ := loop_mem.1 hb
        subst h2
        have := bef_pre (ch ++ [(i : Int)]) [] t
        rw [List.append_nil] at this
        rw [this]
        cases t with
        | nil => exact absurd rfl h0
        | cons x t => rfl
      · simp at ha
    · obtain ⟨t, h0, h1, h2, h3⟩ := loop_mem.1 hb
      subst h2
      have hx : ∃ s, a = ch ++ ((i : Int) :: s) := by
        rcases List.mem_append.1 ha with ha | ha
        · simp only [here] at ha
          split at ha
          · rw [List.mem_singleton.1 ha]; exact ⟨[], rfl⟩
          · simp at ha
        · obtain ⟨s, _, _, h, _⟩ := loop_mem.1 ha
          exact ⟨s, by rw [h]; simp⟩
      obtain ⟨s, rfl⟩ := hx
      rw [bef_pre]
      cases t with
      | nil => exact absurd rfl h0
      | cons x t =>
        have := h1.2 x (by simp)
        simp only [befB]
        rw [if_neg (by omega)]
        simp; omega
theorem all_sorted {P : Prog} : (allF P).Pairwise (fun a b => befB a b = true) := by
  simp only [allF, visF]
  refine List.pairwise_append.2 ⟨by simp only [here]; split <;> simp, loop_sorted, fun a ha b hb => ?_⟩
  simp only [here] at ha
  split at ha
  · rw [List.mem_singleton.1 ha]
    obtain ⟨t, h0, h1, h2, h3⟩ := loop_mem.1 hb
    rw [List.nil_append] at h2
    rw [h2]
    cases t with
    | nil => exact absurd rfl h0
    | cons x t => rfl
  · simp at ha
theorem bef_asymm : ∀ {a b : List Int}, befB a b = true → befB b a = false
  | [], [], h => by cases h
  | [], _ :: _, _ => rfl
  | _ :: _, [], h => by cases h
  | x :: a, y :: b, h => by
    simp only [befB] at h ⊢
    by_cases e : x = y
    · subst e; simp only [if_true] at h ⊢; exact bef_asymm h
    · rw [if_neg e] at h
      rw [if_neg (Ne.symm e)]
      simp at h ⊢; omega
/-! the cheapest -/
structure BestIs (P : Prog) (l : List (List Int)) (σ : Bool × Int × List Int) : Prop where
  none : σ.1 = false → l = [] ∧ σ = (false, 0, [])
  mem : σ.1 = true → σ.2.2 ∈ l ∧ σ.2.1 = sumOf P.costs σ.2.2
  least : σ.1 = true → ∀ c ∈ l, σ.2.1 ≤ sumOf P.costs c
  first : σ.1 = true → ∃ l1 l2, l = l1 ++ σ.2.2 :: l2 ∧ ∀ c ∈ l1, σ.2.1 < sumOf P.costs c
theorem best_step {P : Prog} {l : List (List Int)} {σ : Bool × Int × List Int} (h : BestIs P l σ) (c : List Int) : BestIs P (l ++ [c]) (bestS P σ c) := by
  unfold bestS
  by_cases hs : σ.1 = false
  · rw [if_pos (.inl hs)]
    obtain ⟨rfl, -⟩ := h.none hs
    exact ⟨nofun, fun _ => ⟨by simp, rfl⟩, fun _ x hx => by simp at hx; subst hx; exact Int.le_refl _, fun _ => ⟨[], [], rfl, by simp⟩⟩
  · have ht : σ.1 = true := by simpa using hs
    by_cases hc : sumOf P.costs c < σ.2.1
    · rw [if_pos (.inr hc)]
      refine ⟨nofun, fun _ => ⟨by simp, rfl⟩, fun _ x hx => ?_, fun _ => ⟨l, [], rfl, fun x hx => ?_⟩⟩
      · rcases List.mem_append.1 hx with hx | hx
        · have := h.least ht x hx; show sumOf P.costs c ≤ _; omega
        · rw [List.mem_singleton.1 hx]; exact Int.le_refl _
      · have := h.least ht x hx; show sumOf P.costs c < _; omega
    · rw [if_neg (by simp [hs, hc])]
      refine ⟨fun e => absurd e hs, fun _ => ⟨by simp [(h.mem ht).1], (h.mem ht).2⟩, fun _ x hx => ?_, fun _ => ?_⟩
      · rcases List.mem_append.1 hx with hx | hx
        · exact h.least ht x hx
        · rw [List.mem_singleton.1 hx]; omega
      · obtain ⟨l1, l2, h1, h2⟩ := h.first ht
        exact ⟨l1, l2 ++ [c], by rw [h1]; simp, h2⟩
theorem best_fold {P : Prog} : ∀ (l2 l1 : List (List Int)) (σ : Bool × Int × List Int), BestIs P l1 σ → BestIs P (l1 ++ l2) (l2.foldl (bestS P) σ)
  | [], l1, σ, h => by simpa using h
  | c :: l2, l1, σ, h => by
    have := best_fold l2 (l1 ++ [c]) _ (best_step h c)
    simpa using this
theorem best_is (P : Prog) : BestIs P (allF P) (bestF P) := by
  have := best_fold (P := P) (allF P) [] (false, 0, []) ⟨fun _ => ⟨rfl, rfl⟩, nofun, nofun, nofun⟩
  simpa [bestF] using this
end Go.Proofs.Ytjgaacjfoaohnaa
