/- Layer 8: what the rows of a blueprint mean, in plain Lean: a choice meets them exactly if it is one that the blueprint describes. -/
import Derived.Test.YtpglaaiecgjmmaaGL08s
namespace Go.Proofs.Ytpglaaiecgjmmaa
set_option linter.unusedVariables false
set_option linter.unusedSimpArgs false
set_option linter.unnecessarySimpa false
set_option linter.unusedSectionVars false
set_option maxRecDepth 10000
open Go.RowKit
/-- The chosen items. -/
def chsF (l : List Itm) (ch : List Int) : List Itm := ch.map fun c => itmAt l c.toNat
theorem chsF_len {l : List Itm} {ch : List Int} : (chsF l ch).length = ch.length := by simp [chsF]
theorem chsF_at {l : List Itm} {ch : List Int} {k : Nat} (h : k < ch.length) : (chsF l ch)[k]? = some (itmAt l (nth ch k).toNat) := by
  rw [chsF, List.getElem?_map, nth_some h]; rfl
theorem nth_map {l : List Itm} {v : Itm → Int} {i : Nat} (h : i < l.length) : nth (l.map v) i = v (itmAt l i) := by
  rw [nth_eq (show (l.map v)[i]? = some (v l[i]) by rw [List.getElem?_map, List.getElem?_eq_getElem h]; rfl), itmAt_eq (List.getElem?_eq_getElem h)]
theorem nth_in {ch : List Int} {n k : Nat} (hc : ∀ c ∈ ch, 0 ≤ c ∧ c < (n : Int)) (h : k < ch.length) : 0 ≤ nth ch k ∧ nth ch k < n := hc _ (nth_mem h)
theorem sum_map {l : List Itm} {v : Itm → Int} {ch : List Int} (hc : ∀ c ∈ ch, 0 ≤ c ∧ c < (l.length : Int)) : sumOf (l.map v) ch = tot v (chsF l ch) := by
  have key : ∀ k, k ≤ ch.length → sumTo (l.map v) ch k = tot v ((chsF l ch).take k) := by
    intro k
    induction k with
    | zero => intro _; simp [sumTo, tot]
    | succ k ih =>
      intro hk
      have h1 := nth_in hc (show k < ch.length by omega)
      rw [sumTo, ih (by omega), tot_take (chsF_at (by omega)), nth_map (by omega)]
  rw [sumOf, key _ (Nat.le_refl _), List.take_of_length_le (by rw [chsF_len]; omega)]
def inB (x lo hi : Int) : Bool := decide (lo ≤ x) && decide (x ≤ hi)
theorem meet_map {l : List Itm} {v : Itm → Int} {ch : List Int} {lo hi : Int} (hc : ∀ c ∈ ch, 0 ≤ c ∧ c < (l.length : Int)) : meetB ch ⟨l.map v, lo, hi⟩ = inB (tot v (chsF l ch)) lo hi := by
  rw [meetB, sum_map hc]; rfl
/-! pairs -/
def ind (ch : List Int) (i : Nat) : Int := if (i : Int) ∈ ch then 1 else 0
theorem nth_pair {n i j k : Nat} (h : k < n) : nth (pairRow n i j).coefs k = if k = i ∨ k = j then 1 else 0 :=
  nth_eq (by rw [pairRow, List.getElem?_map, List.getElem?_range h]; rfl)
theorem take_snoc {ch : List Int} {k : Nat} (h : k < ch.length) : ch.take (k + 1) = ch.take k ++ [nth ch k] := by rw [List.take_add_one, nth_some h]; rfl
theorem not_before {ch : List Int} {k : Nat} (ha : ch.Pairwise (· < ·)) (h : k < ch.length) : nth ch k ∉ ch.take k := fun hm => by
  have := List.pairwise_append.1 (show (ch.take k ++ ch.drop k).Pairwise (· < ·) by rw [List.take_append_drop]; exact ha)
  have hd : nth ch k ∈ ch.drop k := by rw [List.drop_eq_getElem_cons h, nth_eq (List.getElem?_eq_getElem h)]; exact List.mem_cons_self ..
  have := this.2.2 _ hm (nth ch k) hd
  omega
theorem sum_pair {n i j : Nat} {ch : List Int} (ha : ch.Pairwise (· < ·)) (hc : ∀ c ∈ ch, 0 ≤ c ∧ c < (n : Int)) (hij : i < j) : sumOf (pairRow n i j).coefs ch = ind ch i + ind ch j := by
  have key : ∀ k, k ≤ ch.length → sumTo (pairRow n i j).coefs ch k = ind (ch.take k) i + ind (ch.take k) j := by
    intro k
    induction k with
    | zero => intro _; simp [sumTo, ind]
    | succ k ih =>
      intro hk
      have h1 := nth_in hc (show k < ch.length by omega)
      have h2 := not_before ha (show k < ch.length by omega)
      rw [sumTo, ih (by omega), nth_pair (by omega), take_snoc (by omega)]
      generalize hx : nth ch k = x at *
      simp only [ind, List.mem_append, List.mem_singleton]
      by_cases e1 : x.toNat = i
      · have e1' : x = (i : Int) := by omega
        subst e1'
        have : ¬ (j : Int) = i := by omega
        simp [h2, this]
        omega
      · by_cases e2 : x.toNat = j
        · have e2' : x = (j : Int) := by omega
          subst e2'
          have : ¬ (i : Int) = j := by omega
          simp [h2, this]
        · have n1 : ¬ (i : Int) = x := by omega
          have n2 : ¬ (j : Int) = x := by omega
          simp [e1, e2, n1, n2]
  rw [sumOf, key _ (Nat.le_refl _), List.take_of_length_le (Nat.le_refl _)]
theorem meet_pair {n i j : Nat} {ch : List Int} (ha : ch.Pairwise (· < ·)) (hc : ∀ c ∈ ch, 0 ≤ c ∧ c < (n : Int)) (hij : i < j) : meetB ch (pairRow n i j) = true ↔ ¬ ((i : Int) ∈ ch ∧ (j : Int) ∈ ch) := by
  rw [meetB, sum_pair ha hc hij, Bool.and_eq_true, decide_eq_true_eq, decide_eq_true_eq]
  show (0 ≤ _ ∧ _ ≤ 1) ↔ _
  simp only [ind]
  by_cases e1 : (i : Int) ∈ ch <;> by_cases e2 : (j : Int) ∈ ch <;> simp [e1, e2]
theorem pairJ_iff {l : List Itm} {i : Nat} {r : Row} : ∀ {m j : Nat}, r ∈ pairJ l i m j ↔ ∃ b, j ≤ b ∧ b < j + m ∧ clashB (itmAt l i) (itmAt l b) = true ∧ r = pairRow l.length i b
  | 0, j => by simp only [pairJ, List.not_mem_nil, false_iff]; rintro ⟨b, h1, h2, -⟩; omega
  | m + 1, j => by
    rw [pairJ, List.mem_append, pairJ_iff]
    constructor
    · rintro (h | ⟨b, h1, h2, h3, h4⟩)
      · cases hc : clashB (itmAt l i) (itmAt l j) with
        | false => simp [hc] at h
        | true => simp [hc] at h; exact ⟨j, by omega, by omega, hc, h⟩
      · exact ⟨b, by omega, by omega, h3, h4⟩
    · rintro ⟨b, h1, h2, h3, h4⟩
      by_cases e : b = j
      · subst e; left; rw [h3]; simp [h4]
      · exact .inr ⟨b, by omega, by omega, h3, h4⟩
theorem pairI_iff {l : List Itm} {r : Row} : ∀ {m i : Nat}, i + m = l.length → (r ∈ pairI l m i ↔ ∃ a b, i ≤ a ∧ a < b ∧ b < l.length ∧ clashB (itmAt l a) (itmAt l b) = true ∧ r = pairRow l.length a b)
  | 0, i, hm => by simp only [pairI, List.not_mem_nil, false_iff]; rintro ⟨a, b, h1, h2, h3, -⟩; omega
  | m + 1, i, hm => by
    rw [pairI, List.mem_append, pairJ_iff, pairI_iff (by omega)]
    constructor
    · rintro (⟨b, h1, h2, h3, h4⟩ | ⟨a, b, h1, h2, h3, h4⟩)
      · exact ⟨i, b, by omega, by omega, by omega, h3, h4⟩
      · exact ⟨a, b, by omega, h2, h3, h4⟩
    · rintro ⟨a, b, h1, h2, h3, h4, h5⟩
      by_cases e : a = i
      · subst e; exact .inl ⟨b, by omega, by omega, h4, h5⟩
      · exact .inr ⟨a, b, by omega, h2, h3, h4, h5⟩
def noClB (xs : List Itm) : Bool := (List.range xs.length).all fun a => (List.range a).all fun k => !clashB (itmAt xs a) (itmAt xs k)
theorem noCl_iff {xs : List Itm} : noClB xs = true ↔ ∀ a k, k < a → a < xs.length → clashB (itmAt xs a) (itmAt xs k) = false := by
  simp only [noClB, List.all_eq_true, List.mem_range, Bool.not_eq_true']
  exact ⟨fun h a k h1 h2 => h a h2 k h1, fun h a h2 k h1 => h a k h1 h2⟩
theorem clash_comm {a b : Itm} : clashB a b = clashB b a := by
  have e : enemyB a b = enemyB b a := by
    rw [Bool.eq_iff_iff]
    simp only [enemyB, Bool.and_eq_true, Bool.or_eq_true, decide_eq_true_eq]
    exact ⟨fun ⟨⟨⟨h1, h2⟩, h3⟩, h4⟩ => ⟨⟨⟨h2, h1⟩, fun e => h3 e.symm⟩, h4.symm⟩, fun ⟨⟨⟨h1, h2⟩, h3⟩, h4⟩ => ⟨⟨⟨h2, h1⟩, fun e => h3 e.symm⟩, h4.symm⟩⟩
  rw [clashB, clashB, e]
  congr 1
  rw [Bool.eq_iff_iff, decide_eq_true_eq, decide_eq_true_eq]
  exact ⟨Eq.symm, Eq.symm⟩
theorem chs_get {l : List Itm} {ch : List Int} {k : Nat} (h : k < ch.length) : itmAt (chsF l ch) k = itmAt l (nth ch k).toNat := itmAt_eq (chsF_at h)
theorem asc_lt {ch : List Int} {a b : Nat} (ha : ch.Pairwise (· < ·)) (h : a < b) (hb : b < ch.length) : nth ch a < nth ch b := by
  rw [nth_eq (List.getElem?_eq_getElem (show a < ch.length by omega)), nth_eq (List.getElem?_eq_getElem hb)]
  exact List.pairwise_iff_getElem.1 ha a b (by omega) hb h
theorem pairs_all {l : List Itm} {ch : List Int} (ha : ch.Pairwise (· < ·)) (hc : ∀ c ∈ ch, 0 ≤ c ∧ c < (l.length : Int)) : (pairsF l).all (meetB ch) = noClB (chsF l ch) := by
  rw [Bool.eq_iff_iff, noCl_iff, List.all_eq_true]
  constructor
  · intro h a k h1 h2
    rw [chsF_len] at h2
    rw [chs_get h2, chs_get (by omega)]
    have n1 := nth_in hc h2
    have n2 := nth_in hc (show k < ch.length by omega)
    have hlt := asc_lt ha h1 h2
    cases hcl : clashB (itmAt l (nth ch a).toNat) (itmAt l (nth ch k).toNat) with
    | false => rfl
    | true =>
      rw [clash_comm] at hcl
      have hm := h _ ((pairI_iff (m := l.length) (i := 0) (by omega)).2 ⟨(nth ch k).toNat, (nth ch a).toNat, by omega, by omega, by omega, hcl, rfl⟩)
      have := (meet_pair ha hc (by omega)).1 hm
      exact absurd ⟨by rw [Int.toNat_of_nonneg n2.1]; exact nth_mem (by omega), by rw [Int.toNat_of_nonneg n1.1]; exact nth_mem h2⟩ this
  · intro h r hr
    obtain ⟨a, b, -, h2, h3, h4, rfl⟩ := (pairI_iff (m := l.length) (i := 0) (by omega)).1 hr
    refine (meet_pair ha hc h2).2 fun ⟨m1, m2⟩ => ?_
    obtain ⟨x, hx, ex⟩ := List.mem_iff_getElem.1 m1
    obtain ⟨y, hy, ey⟩ := List.mem_iff_getElem.1 m2
    have e1 : nth ch x = a := by rw [nth_eq (List.getElem?_eq_getElem hx), ex]
    have e2 : nth ch y = b := by rw [nth_eq (List.getElem?_eq_getElem hy), ey]
    have hxy : x < y := by
      rcases Nat.lt_or_ge x y with h | h
      · exact h
      · rcases Nat.lt_or_ge y x with h' | h'
        · have := asc_lt ha h' hx; omega
        · have : x = y := by omega
          subst this; omega
    have := h y x hxy (by rw [chsF_len]; exact hy)
    rw [chs_get hy, chs_get hx, e1, e2, clash_comm] at this
    simp only [Int.toNat_natCast] at this
    rw [h4] at this
    cases this
/-- What a blueprint describes. -/
def wantedB (b : Blu) (l : List Itm) (ch : List Int) : Bool :=
  noClB (chsF l ch) && (inB ch.length b.leastItems b.mostItems && inB (tot totalF (chsF l ch)) b.leastMarks b.mostMarks) && b.topics.all (fun r => inB (tot (marksF true r.index) (chsF l ch)) r.least r.most) && b.objectives.all (fun r => inB (tot (marksF false r.index) (chsF l ch)) r.least r.most)
    && b.required.all (fun id => decide (tot (fun x => oneF (decide (x.id = id))) (chsF l ch) = 1)) && b.previous.all (fun f => decide (tot (fun x => oneF (usesB f x)) (chsF l ch) ≤ b.overlap))
theorem tot_one {α : Type} {l : List α} : tot (fun _ => 1) l = l.length := by
  induction l with
  | nil => rfl
  | cons x l ih => simp only [tot, ih, List.length_cons]; omega
theorem tot_nonneg {l : List Itm} {p : Itm → Bool} : 0 ≤ tot (fun x => oneF (p x)) l := (tot_bd (m := 1) (by omega) fun x _ => by cases h : p x <;> simp [oneF]).1
theorem rows_mean {b : Blu} {l : List Itm} {ch : List Int} (ha : ch.Pairwise (· < ·)) (hc : ∀ c ∈ ch, 0 ≤ c ∧ c < (l.length : Int)) : (rowsL b l).all (meetB ch) = wantedB b l ch := by
  have h1 : meetB ch (row1 b l) = inB ch.length b.leastItems b.mostItems := by rw [row1, meet_map hc, tot_one, chsF_len]
  have h2 : meetB ch (row2 b l) = inB (tot totalF (chsF l ch)) b.leastMarks b.mostMarks := by rw [row2, meet_map hc]
  have h3 : (b.topics.map (rowT true l)).all (meetB ch) = b.topics.all (fun r => inB (tot (marksF true r.index) (chsF l ch)) r.least r.most) := by
    rw [List.all_map]; congr 1; funext r; exact meet_map hc
  have h4 : (b.objectives.map (rowT false l)).all (meetB ch) = b.objectives.all (fun r => inB (tot (marksF false r.index) (chsF l ch)) r.least r.most) := by
    rw [List.all_map]; congr 1; funext r; exact meet_map hc
  have h5 : (b.required.map (rowR l)).all (meetB ch) = b.required.all (fun id => decide (tot (fun x => oneF (decide (x.id = id))) (chsF l ch) = 1)) := by
    rw [List.all_map]; congr 1; funext id
    refine (meet_map hc).trans ?_
    rw [Bool.eq_iff_iff]
    simp only [inB, Bool.and_eq_true, decide_eq_true_eq]
    omega
  have h6 : (b.previous.map (rowP b.overlap l)).all (meetB ch) = b.previous.all (fun f => decide (tot (fun x => oneF (usesB f x)) (chsF l ch) ≤ b.overlap)) := by
    rw [List.all_map]; congr 1; funext f
    refine (meet_map hc).trans ?_
    have := tot_nonneg (l := chsF l ch) (p := usesB f)
    rw [Bool.eq_iff_iff]
    simp only [inB, Bool.and_eq_true, decide_eq_true_eq]
    omega
  rw [rowsL, List.all_append, List.all_append, List.all_append, List.all_append, List.all_append, h3, h4, h5, h6, pairs_all ha hc, List.all_cons, List.all_cons, List.all_nil, h1, h2, wantedB, Bool.and_true]
  rw [Bool.eq_iff_iff]
  simp only [Bool.and_eq_true]
  constructor
  · rintro ⟨⟨⟨⟨⟨a, b⟩, c⟩, d⟩, e⟩, f⟩; exact ⟨⟨⟨⟨⟨e, a⟩, b⟩, c⟩, d⟩, f⟩
  · rintro ⟨⟨⟨⟨⟨e, a⟩, b⟩, c⟩, d⟩, f⟩; exact ⟨⟨⟨⟨⟨a, b⟩, c⟩, d⟩, e⟩, f⟩
/-! the rows are a valid program -/
theorem rowB_map {l : List Itm} {v : Itm → Int} {lo hi : Int} (hv : ∀ x ∈ l, -10000 ≤ v x ∧ v x ≤ 10000) (h1 : -1000000 ≤ lo ∧ lo ≤ 1000000) (h2 : -1000000 ≤ hi ∧ hi ≤ 1000000) : rowB l.length ⟨l.map v, lo, hi⟩ = true := by
  simp only [rowB, validCoefsB, boundB, Bool.and_eq_true, decide_eq_true_eq, List.all_eq_true, List.mem_map, List.length_map, true_and]
  refine ⟨⟨?_, h1⟩, h2⟩
  rintro c ⟨x, hx, rfl⟩
  have := hv x hx
  simp only [coefB, Bool.and_eq_true, decide_eq_true_eq]
  omega
theorem oneF_bd {b : Bool} : -10000 ≤ oneF b ∧ oneF b ≤ 10000 := by cases b <;> simp [oneF]
theorem ranges_in {c : Int} : ∀ {rs seen : List Rng}, rangesF c seen rs = 0 → ∀ r ∈ rs, rngB c r = true
  | [], _, _, r, hr => by simp at hr
  | x :: rs, seen, h, r, hr => by
    rw [rangesF] at h
    split at h
    · cases h
    split at h
    · cases h
    next h1 h2 =>
    rcases List.mem_cons.1 hr with rfl | hr
    · simpa using h1
    · exact ranges_in h r hr
theorem rows_valid {b : Blu} {l : List Itm} (hb : bluF b = 0) (hl : l.length ≤ 12) (h0 : ∀ x ∈ l, itemF x = 0) (hr : (rowsL b l).length ≤ 60) : validB ⟨List.replicate l.length 0, rowsL b l⟩ = true := by
  have hn : numB b = true ∧ rangesF 16 [] b.topics = 0 ∧ rangesF 6 [] b.objectives = 0 := by
    unfold bluF at hb
    split at hb
    · cases hb
    split at hb
    · cases hb
    split at hb
    · contradiction
    split at hb
    · contradiction
    next h1 h2 h3 h4 => exact ⟨by simpa using h1, by simpa using h3, by simpa using h4⟩
  obtain ⟨n1, n2, n3⟩ := hn
  simp only [numB, totB, insideB, Bool.and_eq_true, decide_eq_true_eq] at n1
  have mk : ∀ t i x, x ∈ l → -10000 ≤ marksF t i x ∧ marksF t i x ≤ 10000 := fun t i x hx => by
    have := mark_bd (h0 x hx) (t := t) (i := i) x.parts.length
    rw [tot_end (Nat.le_refl _)] at this
    have e : marksF t i x = tot (markT t i) x.parts := rfl
    omega
  have tt : ∀ x, x ∈ l → -10000 ≤ totalF x ∧ totalF x ≤ 10000 := fun x hx => by
    have := parts_take (k := x.parts.length) (h0 x hx) Prt.max fun p hp => part_mem (h0 x hx) hp
    rw [tot_end (Nat.le_refl _)] at this
    have e : totalF x = tot Prt.max x.parts := if_pos (h0 x hx)
    omega
  have hall : (rowsL b l).all (rowB l.length) = true := by
    rw [List.all_eq_true]
    intro r hr
    simp only [rowsL, List.mem_append, List.mem_map, List.mem_cons, List.not_mem_nil, or_false] at hr
    rcases hr with ((((h | ⟨x, hx, h⟩) | ⟨x, hx, h⟩) | ⟨x, hx, h⟩) | h) | ⟨x, hx, h⟩
    · rcases h with h | h
      · subst h; exact rowB_map (fun x _ => by omega) (by omega) (by omega)
      · subst h; exact rowB_map (fun x hx => tt x hx) (by omega) (by omega)
    · subst h
      have := ranges_in n2 x hx
      simp only [rngB, totB, insideB, Bool.and_eq_true, decide_eq_true_eq] at this
      exact rowB_map (fun y hy => mk _ _ y hy) (by omega) (by omega)
    · subst h
      have := ranges_in n3 x hx
      simp only [rngB, totB, insideB, Bool.and_eq_true, decide_eq_true_eq] at this
      exact rowB_map (fun y hy => mk _ _ y hy) (by omega) (by omega)
    · subst h; exact rowB_map (fun y _ => oneF_bd) (by omega) (by omega)
    · obtain ⟨i, j, rfl⟩ := pairI_mem h
      simp only [pairRow, rowB, validCoefsB, boundB, Bool.and_eq_true, decide_eq_true_eq, List.all_eq_true, List.mem_map, List.length_map, List.length_range, true_and]
      refine ⟨⟨?_, ⟨rfl, rfl⟩⟩, ⟨rfl, rfl⟩⟩
      rintro c ⟨k, -, rfl⟩
      simp only [coefB, Bool.and_eq_true, decide_eq_true_eq]
      split <;> omega
    · subst h; exact rowB_map (fun y _ => oneF_bd) (by omega) (by omega)
  simp only [validB, List.length_replicate, Bool.and_eq_true, decide_eq_true_eq, hall, and_true]
  refine ⟨⟨hl, hr⟩, ?_⟩
  rw [List.all_eq_true]
  intro c hc
  rw [List.eq_of_mem_replicate hc]
  rfl
theorem mean_sub {b : Blu} {l : List Itm} (hb : bluF b = 0) (hl : l.length ≤ 12) (h0 : ∀ x ∈ l, itemF x = 0) (hr : (rowsL b l).length ≤ 60) (t : Nat) : meetsB ⟨List.replicate l.length 0, rowsL b l⟩ (subTo t l.length) = wantedB b l (subTo t l.length) := by
  have hc := sub_choice t l.length
  rw [meetsB, rows_valid hb hl h0 hr, List.length_replicate, hc, Bool.true_and, Bool.true_and]
  exact rows_mean (sub_asc _ _) fun c hcc => by obtain ⟨i, h1, rfl, -⟩ := mem_sub.1 hcc; omega
end Go.Proofs.Ytpglaaiecgjmmaa
