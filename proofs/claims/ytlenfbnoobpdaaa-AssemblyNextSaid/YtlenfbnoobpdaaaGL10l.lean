/- Layer 10, plain: excluding choices one after the other. -/
import Derived.Test.YtlenfbnoobpdaaaGL10k
namespace Go.Proofs.Ytlenfbnoobpdaaa
set_option linter.unusedVariables false
set_option linter.unusedSimpArgs false
set_option linter.unnecessarySimpa false
set_option linter.unusedSectionVars false
set_option maxRecDepth 10000
open Go.RowKit
theorem repCo_nth {n : Nat} {c : List Int} {i : Nat} (h : i < n) : nth (repCo n c) i = if hasB c (i : Int) then 1 else -1 := by
  simp [repCo, nth, List.getD_eq_getElem?_getD, h]
theorem sumOf_cons (vs : List Int) (x : Int) (ch : List Int) : sumOf vs (x :: ch) = nth vs x.toNat + sumOf vs ch := by
  have : ∀ k, k ≤ ch.length → sumTo vs (x :: ch) (k + 1) = nth vs x.toNat + sumTo vs ch k := by
    intro k
    induction k with
    | zero => intro _; simp [sumTo, nth]
    | succ k ih =>
      intro hk
      rw [sumTo, ih (by omega), sumTo]
      have : nth (x :: ch) (k + 1) = nth ch k := by simp [nth]
      rw [this]
      omega
  exact this ch.length (Nat.le_refl _)
theorem sumOf_nil (vs : List Int) : sumOf vs [] = 0 := rfl
/-- The row's sum: as many as are shared, less the others. -/
theorem rep_sum {n : Nat} {c : List Int} : ∀ {d : List Int} {lo : Nat}, Asc lo n d → sumOf (repCo n c) d = 2 * ((d.filter (hasB c)).length : Int) - d.length
  | [], lo, h => by simp [sumOf_nil]
  | x :: d, lo, h => by
    have hp := List.pairwise_cons.1 h.1
    have hx := h.2 x (by simp)
    have ih := rep_sum (n := n) (c := c) (d := d) (lo := lo) ⟨hp.2, fun y hy => h.2 y (by simp [hy])⟩
    rw [sumOf_cons, ih, repCo_nth (by omega), show ((x.toNat : Nat) : Int) = x by omega, List.filter_cons]
    cases hb : hasB c x with
    | true => simp; omega
    | false => simp; omega
theorem nodup_le {α : Type} [DecidableEq α] : ∀ {a b : List α}, a.Nodup → (∀ x ∈ a, x ∈ b) → a.length ≤ b.length
  | [], b, _, _ => by simp
  | x :: a, b, hn, hs => by
    have hn' := List.nodup_cons.1 hn
    have hx := hs x (by simp)
    have ih := nodup_le (a := a) (b := b.erase x) hn'.2 fun y hy => (List.mem_erase_of_ne (show y ≠ x from fun e => hn'.1 (by rw [← e]; exact hy))).2 (hs y (by simp [hy]))
    rw [List.length_erase_of_mem hx] at ih
    have := List.length_pos_of_mem hx
    simp only [List.length_cons]
    omega
theorem nodup_all {α : Type} [DecidableEq α] {a b : List α} (hn : a.Nodup) (hs : ∀ x ∈ a, x ∈ b) (hl : b.length ≤ a.length) : ∀ x ∈ b, x ∈ a := fun x hx => by
  rcases Classical.em (x ∈ a) with h | h
  · exact h
  · have := nodup_le (a := x :: a) (b := b) (List.nodup_cons.2 ⟨h, hn⟩) fun y hy => by
      rcases List.mem_cons.1 hy with rfl | hy
      · exact hx
      · exact hs y hy
    simp only [List.length_cons] at this
    omega
theorem asc_sub_len {n lo lo' : Nat} {d c : List Int} (hd : Asc lo n d) (hc : Asc lo' n c) (hs : ∀ x ∈ d, x ∈ c) : d.length ≤ c.length ∧ (d.length = c.length → d = c) := by
  have nd : d.Nodup := hd.1.imp (fun h => by omega)
  refine ⟨nodup_le nd hs, fun e => asc_ext hd hc fun x => ⟨hs x, nodup_all nd hs (by omega) x⟩⟩
/-- A choice meets the row exactly if it is another one. -/
theorem rep_meet {n : Nat} {c d : List Int} (hn : n ≤ 12) (hc : Asc 0 n c) (hd : Asc 0 n d) : meetB d (repRow n c) = decide (d ≠ c) := by
  have hs := rep_sum (c := c) hd
  have hdl := asc_len hd
  have hf : (d.filter (hasB c)).length ≤ d.length := List.length_filter_le ..
  have hfa : Asc 0 n (d.filter (hasB c)) := ⟨hd.1.filter _, fun x hx => hd.2 x (List.mem_filter.1 hx).1⟩
  have h1 := asc_sub_len hfa hc fun x hx => hasB_iff.1 (List.mem_filter.1 hx).2
  have h2 := asc_sub_len hfa hd fun x hx => (List.mem_filter.1 hx).1
  rw [Bool.eq_iff_iff]
  simp only [meetB, repRow, Bool.and_eq_true, decide_eq_true_eq, hs]
  constructor
  · rintro ⟨_, h⟩ rfl
    have : d.filter (hasB d) = d := List.filter_eq_self.2 fun x hx => hasB_iff.2 hx
    rw [this] at h
    omega
  · intro hne
    refine ⟨by omega, ?_⟩
    rcases Nat.lt_or_ge (d.filter (hasB c)).length c.length with h | h
    · omega
    · rcases Nat.lt_or_ge (d.filter (hasB c)).length d.length with h' | h'
      · omega
      · exact absurd ((h2.2 (by omega)).symm.trans (h1.2 (by omega))) hne
/-- The program without some choices. -/
def repsP (P : Prog) (E : List (List Int)) : Prog := ⟨P.costs, P.rows ++ E.map (repRow P.costs.length)⟩
theorem reps_snoc {P : Prog} {E : List (List Int)} {c : List Int} : repP (repsP P E) c = repsP P (E ++ [c]) := by
  simp [repP, repsP]
section
variable {P : Prog} {E : List (List Int)}
theorem reps_met (hn : P.costs.length ≤ 12) (hE : ∀ c ∈ E, Asc 0 P.costs.length c) {d : List Int} (hd : Asc 0 P.costs.length d) : metB (repsP P E) d = (metB P d && decide (d ∉ E)) := by
  have : metB (repsP P E) d = (metB P d && E.all fun c => meetB d (repRow P.costs.length c)) := by
    simp only [metB, repsP, List.all_append, List.all_map]
    rfl
  rw [this]
  congr 1
  rw [Bool.eq_iff_iff, List.all_eq_true, decide_eq_true_eq]
  constructor
  · intro h hm
    have := h d hm
    rw [rep_meet hn (hE d hm) hd] at this
    simp at this
  · intro h c hc
    rw [rep_meet hn (hE c hc) hd]
    exact decide_eq_true fun e => h (e ▸ hc)
theorem reps_valid (hv : validB P = true) (hE : ∀ c ∈ E, Asc 0 P.costs.length c) (hl : P.rows.length + E.length ≤ 60) : validB (repsP P E) = true := by
  have h := validB_parts hv
  simp only [validB, repsP, List.length_append, List.length_map, List.all_append, Bool.and_eq_true, decide_eq_true_eq]
  refine ⟨⟨⟨decide_eq_true h.1, by omega⟩, h.2.2.1⟩, h.2.2.2, ?_⟩
  rw [List.all_eq_true]
  intro r hr
  obtain ⟨c, hc, rfl⟩ := List.mem_map.1 hr
  have hcl := asc_len (hE c hc)
  simp only [rowB, repRow, Bool.and_eq_true, decide_eq_true_eq]
  refine ⟨⟨⟨by simp [repCo], ?_⟩, by simp [boundB]⟩, by rw [boundB_iff]; omega⟩
  rw [validCoefsB, List.all_eq_true]
  intro x hx
  rw [coefB_iff]
  simp only [repCo, List.mem_map] at hx
  obtain ⟨i, _, rfl⟩ := hx
  split <;> omega
/-- What is left. -/
theorem reps_all (hn : P.costs.length ≤ 12) (hE : ∀ c ∈ E, Asc 0 P.costs.length c) {d : List Int} : d ∈ allF (repsP P E) ↔ d ∈ allF P ∧ d ∉ E := by
  rw [all_mem, all_mem]
  show Asc 0 P.costs.length d ∧ _ ↔ _
  constructor
  · rintro ⟨h1, h2⟩
    rw [reps_met hn hE h1, Bool.and_eq_true, decide_eq_true_eq] at h2
    exact ⟨⟨h1, h2.1⟩, h2.2⟩
  · rintro ⟨⟨h1, h2⟩, h3⟩
    exact ⟨h1, by rw [reps_met hn hE h1, Bool.and_eq_true, decide_eq_true_eq]; exact ⟨h2, h3⟩⟩
theorem all_nodup : (allF P).Nodup := all_sorted.imp fun {a b} h e => by
  subst e
  have := bef_asymm h
  rw [h] at this
  cases this
theorem all_count4 (h : P.costs.length ≤ 4) : (allF P).length ≤ 16 := by
  have h1 := loop_count (P := P) (m := P.costs.length - 0) (ch := []) (i := 0)
  have h3 : (here P []).length ≤ 1 := by simp only [here]; split <;> simp
  have h4 : 2 ^ (P.costs.length - 0) ≤ 2 ^ 4 := Nat.pow_le_pow_right (by omega) (by omega)
  simp only [allF, visF, List.length_append]
  omega
/-- What holds when some choices have been excluded, each the cheapest when its turn came. -/
structure NextInv (P : Prog) (E : List (List Int)) (cost : Int) : Prop where
  sub : ∀ c ∈ E, c ∈ allF P
  nd : E.Nodup
  low : ∀ d ∈ allF P, d ∉ E → cost ≤ sumOf P.costs d
  pos : 0 ≤ cost
theorem cost_pos (hv : validB P = true) {d : List Int} (h : Asc 0 P.costs.length d) : 0 ≤ sumOf P.costs d := by
  have : ∀ k, k ≤ d.length → 0 ≤ sumTo P.costs d k := by
    intro k
    induction k with
    | zero => intro _; exact Int.le_refl _
    | succ k ih =>
      intro hk
      have h1 := ih (by omega)
      have h2 := cost_in hv (nth d k).toNat
      rw [sumTo]
      omega
  exact this d.length (Nat.le_refl _)
variable {cost : Int}
theorem NextInv.start (hv : validB P = true) : NextInv P [] 0 := ⟨by simp, List.nodup_nil, fun d hd _ => cost_pos hv (all_mem.1 hd).1, by omega⟩
theorem NextInv.found (h : NextInv P E cost) (hn : P.costs.length ≤ 12) : ((bestF (repsP P E)).1 = true ↔ E.length < (allF P).length) := by
  have hE : ∀ c ∈ E, Asc 0 P.costs.length c := fun c hc => (all_mem.1 (h.sub c hc)).1
  have hb := best_is (repsP P E)
  constructor
  · intro hf
    have hm := (reps_all hn hE).1 (hb.mem hf).1
    have := nodup_le (a := (bestF (repsP P E)).2.2 :: E) (b := allF P) (List.nodup_cons.2 ⟨hm.2, h.nd⟩) fun c hc => by
      rcases List.mem_cons.1 hc with rfl | hc
      · exact hm.1
      · exact h.sub c hc
    simp only [List.length_cons] at this
    omega
  · intro hlt
    cases hf : (bestF (repsP P E)).1 with
    | true => rfl
    | false =>
      exfalso
      have h0 := (hb.none hf).1
      have hall : ∀ d ∈ allF P, d ∈ E := fun d hd => by
        rcases Classical.em (d ∈ E) with h | h
        · exact h
        · have := (reps_all hn hE).2 ⟨hd, h⟩
          rw [h0] at this
          simp at this
      have := nodup_le (all_nodup (P := P)) hall
      omega
theorem NextInv.next (h : NextInv P E cost) (hv : validB P = true) (hf : (bestF (repsP P E)).1 = true) : cost ≤ (bestF (repsP P E)).2.1 ∧ (bestF (repsP P E)).2.2 ∈ allF P ∧ (bestF (repsP P E)).2.2 ∉ E ∧ NextInv P (E ++ [(bestF (repsP P E)).2.2]) (bestF (repsP P E)).2.1 := by
  have hn := (validB_parts hv).1
  have hE : ∀ c ∈ E, Asc 0 P.costs.length c := fun c hc => (all_mem.1 (h.sub c hc)).1
  have hb := best_is (repsP P E)
  have hm := hb.mem hf
  have hm2 := (reps_all hn hE).1 hm.1
  have hc1 : (bestF (repsP P E)).2.1 = sumOf P.costs (bestF (repsP P E)).2.2 := hm.2
  have hlo := h.low _ hm2.1 hm2.2
  refine ⟨by rw [hc1]; exact hlo, hm2.1, hm2.2, fun c hc => ?_, ?_, fun d hd hd' => ?_, by have := h.pos; omega⟩
  · rcases List.mem_append.1 hc with hc | hc
    · exact h.sub c hc
    · rw [List.mem_singleton.1 hc]; exact hm2.1
  · refine List.nodup_append.2 ⟨h.nd, by simp, fun a ha b hb' => ?_⟩
    rw [List.mem_singleton.1 hb']
    exact fun e => hm2.2 (e ▸ ha)
  · have : d ∈ allF (repsP P E) := (reps_all hn hE).2 ⟨hd, fun h => hd' (List.mem_append.2 (.inl h))⟩
    exact hb.least hf d this
end
end Go.Proofs.Ytlenfbnoobpdaaa
