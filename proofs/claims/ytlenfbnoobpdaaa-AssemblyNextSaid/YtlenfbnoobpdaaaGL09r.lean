/- Layer 9: a tree that the tape makes in full, and what it proves; the law OptimalityBest. -/
import Derived.Test.YtlenfbnoobpdaaaGL09q

namespace Go.Proofs.Ytlenfbnoobpdaaa
set_option linter.unusedVariables false
set_option linter.unusedSimpArgs false
set_option linter.unnecessarySimpa false
set_option linter.unusedSectionVars false
set_option maxRecDepth 10000
open Go.RowKit

def outAt (S : List (List Int)) (N m : Nat) : List (List Int) := S.take m ++ List.replicate (N - m) []
def knAt (N m : Nat) : List Bool := List.replicate m true ++ List.replicate (N - m) false
theorem outAt_len {S : List (List Int)} {N m : Nat} (h : S.length = N) (hm : m ≤ N) : (outAt S N m).length = N := by simp [outAt]; omega
theorem knAt_len {N m : Nat} (hm : m ≤ N) : (knAt N m).length = N := by simp [knAt]; omega
theorem knAt_in {N m j : Nat} (h : j < m) : (knAt N m)[j]? = some true := by
  rw [knAt, List.getElem?_append_left (by simpa using h), List.getElem?_replicate, if_pos h]
theorem knAt_out {N m j : Nat} (h : m ≤ j) : (knAt N m).getD j false = false := by
  rw [knAt, List.getD_eq_getElem?_getD, List.getElem?_append_right (by simpa using h), List.getElem?_replicate]
  split <;> rfl
theorem outAt_in {S : List (List Int)} {N m j : Nat} {s : List Int} (h : j < m) (hs : S[j]? = some s) : (outAt S N m)[j]? = some s := by
  have hj := (List.getElem?_eq_some_iff.1 hs).1
  rw [outAt, List.getElem?_append_left (by simp; omega), List.getElem?_take, if_pos h, hs]
theorem knAt_next {N m : Nat} (h : m < N) : (knAt N m).set m true = knAt N (m + 1) := by
  rw [knAt, List.set_append_right _ _ (by simp), List.length_replicate, Nat.sub_self]
  obtain ⟨k, hk⟩ : ∃ k, N - m = k + 1 := ⟨N - m - 1, by omega⟩
  rw [hk, List.replicate_succ, List.set_cons_zero, knAt, List.replicate_succ', List.append_assoc, show N - (m + 1) = k by omega]
  rfl
theorem outAt_next {S : List (List Int)} {N m : Nat} {s : List Int} (hS : S.length = N) (hs : S[m]? = some s) : (outAt S N m).set m s = outAt S N (m + 1) := by
  have h := (List.getElem?_eq_some_iff.1 hs).1
  rw [outAt, List.set_append_right _ _ (by simp; omega), List.length_take, Nat.min_eq_left (by omega), Nat.sub_self]
  obtain ⟨k, hk⟩ : ∃ k, N - m = k + 1 := ⟨N - m - 1, by omega⟩
  rw [hk, List.replicate_succ, List.set_cons_zero, outAt, List.take_add_one, hs, List.append_assoc, show N - (m + 1) = k by omega]
  rfl
theorem brs_take {l : List Nd} {i : Nat} {n : Nd} (h : l[i]? = some n) : brs (l.take (i + 1)) = brs (l.take i) + if n.kind = 1 then 1 else 0 := by
  rw [List.take_add_one, h]
  exact brs_snoc _ _
theorem brs_le (l : List Nd) (i : Nat) : brs (l.take i) ≤ brs l := by
  induction l generalizing i with
  | nil => simp [brs]
  | cons x l ih =>
    cases i with
    | zero => simp [brs]
    | succ i => have := ih i; simp only [List.take_succ_cons, brs]; omega
theorem first_spec {st : List Int} : ∀ (rows : List Row) (k : Nat), firstFrom st k rows = -1 ∨ ∃ j, j < rows.length ∧ firstFrom st k rows = ((k + j : Nat) : Int) ∧ blockedB st (rowAt rows j) = true
  | [], _ => .inl rfl
  | r :: rs, k => by
    rw [firstFrom]
    split
    · next h => exact .inr ⟨0, by simp, by simp, by simpa [rowAt] using h⟩
    · rcases first_spec (st := st) rs (k + 1) with h | ⟨j, h1, h2, h3⟩
      · exact .inl h
      · exact .inr ⟨j + 1, by simp; omega, by rw [h2]; omega, by simpa [rowAt] using h3⟩
theorem dead_row {P : Prog} {s : List Int} (h : 0 ≤ deadF P s) : deadF P s < P.rows.length ∧ blockedB s (rowAt P.rows (deadF P s).toNat) = true := by
  unfold deadF at *
  cases hd : deadB P s with
  | false => rw [hd] at h; simp at h
  | true =>
    rw [hd] at h
    simp only [if_true] at h ⊢
    rcases first_spec (st := s) P.rows 0 with h1 | ⟨j, h1, h2, h3⟩
    · omega
    · rw [h2]
      refine ⟨by omega, ?_⟩
      rw [Int.toNat_natCast, Nat.zero_add]
      exact h3
theorem dead_lt {P : Prog} {s : List Int} (h : 0 < P.rows.length ∨ 0 ≤ deadF P s) : deadF P s < P.rows.length := by
  rcases dead_neg (P := P) (st := s) with e | e
  · omega
  · exact (dead_row e).1
/-- A tree that the tape makes in full: States goes through it. -/
theorem tree_go {P : Prog} {S : List (List Int)} {l : List Nd} (hT : TreeInv P true l.length S l) (hl : S.length = l.length) : ∀ (m i : Nat), m = l.length - i → i ≤ l.length →
    goS P.costs.length P.rows.length l.length i (outAt S l.length (1 + 2 * brs (l.take i))) (knAt l.length (1 + 2 * brs (l.take i))) (l.drop i) = some S := by
  have hSl := hT.Sl
  intro m
  induction m with
  | zero =>
    intro i hm hi
    rw [drop_end (by omega)]
    have : l.take i = l := List.take_of_length_le (by omega)
    rw [this, ← hSl, hl]
    simp [goS, outAt, ← hl]
  | succ m ih =>
    intro i hm hi
    have hlt : i < l.length := by omega
    obtain ⟨n, hn⟩ : ∃ n, l[i]? = some n := ⟨_, List.getElem?_eq_getElem hlt⟩
    obtain ⟨s, hs⟩ : ∃ s, S[i]? = some s := ⟨_, List.getElem?_eq_getElem (by omega)⟩
    have hpre := hT.pre i hlt
    have hle := brs_le l i
    have hle1 := brs_le l (i + 1)
    have hbt := brs_take hn
    have hk := knAt_in (N := l.length) hpre
    have ho := outAt_in (N := l.length) hpre hs
    have ih := ih (i + 1) (by omega) (by omega)
    rw [hbt] at ih hle1
    rw [drop_at hn]
    rcases hT.node i n s hn hs with ⟨a1, a2, a3, a4, a5, a6, a7, a8, a9⟩ | ⟨_, a1, rfl⟩ | ⟨_, a1, a2, rfl⟩ | ⟨h, _⟩
    · rw [if_pos a1] at ih hle1
      have e := step_br (c := P.costs.length) (rows := P.rows.length) (N := l.length) hk a1 (out := outAt S l.length (1 + 2 * brs (l.take i)))
      have z1 : n.zero.toNat = 1 + 2 * brs (l.take i) := by omega
      have z2 : n.one.toNat = 1 + 2 * brs (l.take i) + 1 := by omega
      rw [if_pos ⟨by omega, by omega, by omega, by omega, by omega, a5, a6, knAt_out (by omega), knAt_out (by omega), by rw [getD_some ho]; exact a7⟩, getD_some ho, z1, z2, knAt_next (by omega), knAt_next (by omega), outAt_next hl a8, outAt_next hl a9] at e
      rw [go_some e]
      exact ih
    · have hk2 : (⟨2, 0, 0, 0, deadF P s, 0, 0⟩ : Nd).kind ≠ 1 := by show (2 : Int) ≠ 1; omega
      rw [if_neg hk2] at ih
      have e := step_leaf (c := P.costs.length) (rows := P.rows.length) (N := l.length) hk (hk2 : (⟨2, 0, 0, 0, deadF P s, 0, 0⟩ : Nd).kind ≠ 1) (out := outAt S l.length (1 + 2 * brs (l.take i)))
      have hd := (dead_row a1).1
      rw [if_pos (by simp [infB, a1, hd])] at e
      rw [go_some e]
      exact ih
    · rw [if_neg (by decide)] at ih
      have e := step_leaf (c := P.costs.length) (rows := P.rows.length) (N := l.length) hk (by decide : (⟨3, 0, 0, 0, -1, 0, 1⟩ : Nd).kind ≠ 1) (out := outAt S l.length (1 + 2 * brs (l.take i)))
      rw [if_pos (by simp [bnd_row, rowOk9])] at e
      rw [go_some e]
      exact ih
    · cases h

theorem tree_states {P : Prog} {S : List (List Int)} {l : List Nd} (hT : TreeInv P true l.length S l) (hl : S.length = l.length) (hv : validB P = true) (h8 : l.length ≤ 8191) : statesF P l = (some S, 0) := by
  have hSl := hT.Sl
  have h0 : 0 < l.length := by omega
  have hgo := tree_go hT hl l.length 0 (by omega) (by omega)
  rw [List.take_zero, List.drop_zero] at hgo
  rw [statesF, if_neg (by rw [hv]; decide), if_neg (by omega), if_neg (by omega)]
  have e1 : outAt S l.length (1 + 2 * brs []) = (List.replicate l.length []).set 0 (List.replicate P.costs.length (-1)) := by
    rw [show 1 + 2 * brs [] = 0 + 1 from rfl, ← outAt_next hl hT.root]
    simp [outAt]
  have e2 : knAt l.length (1 + 2 * brs []) = (List.replicate l.length false).set 0 true := by
    rw [show 1 + 2 * brs [] = 0 + 1 from rfl, ← knAt_next h0]
    simp [knAt]
  rw [e1, e2] at hgo
  rw [hgo]
theorem goP_ok {P : Prog} : ∀ (ss : List (List Int)) (ns : List Nd) (best : Int) (sm : Bool), (∀ (j : Nat) s n, ss[j]? = some s → ns[j]? = some n → n.kind = 2 → blockedB s (rowAt P.rows n.row.toNat) = true) → (goP P ss ns best sm).2.2 = 0
  | [], ns, best, sm, h => by simp only [goP]
  | s :: ss, [], best, sm, h => by simp only [goP]
  | s :: ss, n :: ns, best, sm, h => by
    have ih := fun b m => goP_ok ss ns b m fun j s n h1 h2 => h (j + 1) s n (by simpa using h1) (by simpa using h2)
    have h0 := h 0 s n rfl rfl
    rw [goP]
    split
    · next h2 => rw [if_neg (by rw [h0 h2]; decide)]; exact ih _ _
    · split
      · exact ih _ _
      · exact ih _ _
theorem goP_at {P : Prog} : ∀ (ss : List (List Int)) (ns : List Nd) (best : Int) (sm : Bool) (b : Int), goP P ss ns best sm = (b, true, 0) → (sm = true ∧ b = best) ∨ ∃ (j : Nat) (s : List Int) (n : Nd), ss[j]? = some s ∧ ns[j]? = some n ∧ n.kind = 3 ∧ b = boundF P s n
  | [], ns, best, sm, b, h => by
    simp only [goP, Prod.mk.injEq] at h
    exact .inl ⟨h.2.1, h.1.symm⟩
  | s :: ss, [], best, sm, b, h => by
    simp only [goP, Prod.mk.injEq] at h
    exact .inl ⟨h.2.1, h.1.symm⟩
  | s :: ss, n :: ns, best, sm, b, h => by
    have up : ((∃ (j : Nat) (s : List Int) (n : Nd), ss[j]? = some s ∧ ns[j]? = some n ∧ n.kind = 3 ∧ b = boundF P s n)) → ∃ (j : Nat) (s' : List Int) (n' : Nd), (s :: ss)[j]? = some s' ∧ (n :: ns)[j]? = some n' ∧ n'.kind = 3 ∧ b = boundF P s' n' := fun ⟨j, s', n', h1, h2, h3⟩ => ⟨j + 1, s', n', by simpa using h1, by simpa using h2, h3⟩
    rw [goP] at h
    split at h
    · split at h
      · simp at h
      · exact (goP_at ss ns best sm b h).imp id up
    · split at h
      · next h3 =>
        rcases goP_at ss ns _ true b h with ⟨-, e⟩ | e
        · split at e
          · exact .inr ⟨0, s, n, rfl, rfl, h3, e⟩
          · next hno => exact .inl ⟨by cases sm with | true => rfl | false => exact absurd (.inl rfl) hno, e⟩
        · exact .inr (up e)
      · exact (goP_at ss ns best sm b h).imp id up
/-- The bound of a state without undecided options. -/
theorem bound_decided {P : Prog} {s : List Int} {t : Nat} (hl : s.length = P.costs.length) (hst : AllTo triB s s.length) (hne : ∀ x ∈ s, x ≠ -1) (hc : Compl s t) : boundF P s ⟨3, 0, 0, 0, -1, 0, 1⟩ = bitSum P.costs t P.costs.length := by
  have hsum : ∀ k, k ≤ s.length → sumN (fun i => contr (nth s i) (nodeV P ⟨3, 0, 0, 0, -1, 0, 1⟩ i)) k = bitSum P.costs t k := by
    intro k
    induction k with
    | zero => intro _; rfl
    | succ k ih =>
      intro hk
      rw [sumN, bitSum, ih (by omega)]
      congr 1
      have h1 := hst k (by omega)
      rw [triB_iff] at h1
      have h2 := hne _ (nth_mem (show k < s.length by omega))
      have h3 := hc k (by omega)
      have hn : nodeV P ⟨3, 0, 0, 0, -1, 0, 1⟩ k = nth P.costs k := by simp [nodeV]
      rw [hn, contr]
      by_cases e : nth s k = 1
      · rw [if_pos e, if_pos (h3.1 e)]
      · have e0 : nth s k = 0 := by omega
        rw [if_neg e, if_neg h2, if_neg (by rw [h3.2 e0]; decide)]
  have htot : totF P s ⟨3, 0, 0, 0, -1, 0, 1⟩ P.costs.length = bitSum P.costs t P.costs.length := by
    rw [totF, hsum _ (by omega)]
    have : startF P ⟨3, 0, 0, 0, -1, 0, 1⟩ = 0 := by simp [startF]
    rw [this]; omega
  rw [boundF, htot]
  simp [ceilF]
/-- What a full tree proves. -/
theorem full_proved {P : Prog} {S : List (List Int)} {l : List Nd} (hT : TreeInv P true l.length S l) (hl : S.length = l.length) (hv : validB P = true) (h8 : l.length ≤ 8191) :
    ∃ b sm, provedF P l = (b, sm, 0) ∧ (sm = true → ∃ t, t < 2 ^ P.costs.length ∧ meetsB P (subTo t P.costs.length) = true ∧ costF P (subTo t P.costs.length) = b) := by
  have hst := tree_states hT hl hv h8
  have hp : provedF P l = goP P S l 0 false := by rw [provedF, hst]
  have h0 : (goP P S l 0 false).2.2 = 0 := goP_ok S l 0 false fun j s n h1 h2 h3 => by
    rcases hT.node j n s h2 h1 with ⟨a1, -⟩ | ⟨_, a1, rfl⟩ | ⟨_, a1, a2, rfl⟩ | ⟨h, _⟩
    · omega
    · exact (dead_row a1).2
    · simp at h3
    · cases h
  refine ⟨(goP P S l 0 false).1, (goP P S l 0 false).2.1, by rw [hp]; exact Prod.ext rfl (Prod.ext rfl h0), fun hsm => ?_⟩
  have he : goP P S l 0 false = ((goP P S l 0 false).1, true, 0) := Prod.ext rfl (Prod.ext hsm h0)
  rcases goP_at S l 0 false _ he with ⟨h, _⟩ | ⟨j, s, n, h1, h2, h3, h4⟩
  · cases h
  · rcases hT.node j n s h2 h1 with ⟨a1, -⟩ | ⟨_, a1, rfl⟩ | ⟨_, a1, a2, rfl⟩ | ⟨h, _⟩
    · omega
    · simp at h3
    · have hO := hT.tri s (List.mem_of_getElem? h1)
      have hsl := st_len hO
      have htri := tri_all hO
      obtain ⟨t, ht, hbit⟩ := exists_bits (fun i => decide (nth s i = 1)) P.costs.length
      have hc : Compl s t := fun i hi => by
        rw [hbit i (by omega)]
        exact ⟨fun h => by simp [h], fun h => by simp [h]⟩
      have hf : hasB s (-1) = false := by
        cases hh : hasB s (-1) with
        | false => rfl
        | true => exact absurd rfl (a2 _ (hasB_iff.1 hh))
      have hm := (decided_iff hsl htri hv (by rw [← stO_state (validB_parts hv).1]; exact hO) hf hc).1 a1
      refine ⟨t, ht, hm, ?_⟩
      rw [h4, bound_decided hsl htri a2 hc, costF, if_pos, sumOf_sub]
      simp only [meetsB, Bool.and_eq_true] at hm
      simp [costOk, hm.1.1, hm.1.2]
    · cases h
theorem tree_small {P : Prog} {full : Bool} {S : List (List Int)} {l : List Nd} (hT : TreeInv P full l.length S l) (hc : P.costs.length ≤ 12) : l.length ≤ 8191 := by
  have h1 := hT.size
  have h4 : 2 ^ (P.costs.length + 1) ≤ 2 ^ 13 := Nat.pow_le_pow_right (by omega) (by omega)
  omega
/-- Whether the choice of the bits t is accepted. -/
def accB (P : Prog) (l : List Nd) (t : Nat) : Bool := decide (checkF P ⟨true, subTo t P.costs.length, costF P (subTo t P.costs.length), l⟩ = 0)
theorem acc_iff {P : Prog} {l : List Nd} {b : Int} {sm : Bool} (hv : validB P = true) (hp : provedF P l = (b, sm, 0)) (t : Nat) : accB P l t = true ↔ meetsB P (subTo t P.costs.length) = true ∧ costF P (subTo t P.costs.length) = b := by
  have hs := fun hm => proved_sound hp (t := t) hm
  simp only [accB, checkF, hp, hv]
  cases hm : meetsB P (subTo t P.costs.length) with
  | false => simp
  | true =>
    have h := hs hm
    simp [h.1]
    omega
def noneB (P : Prog) (l : List Nd) : Bool := decide (checkF P ⟨false, [], 0, l⟩ = 0)
theorem none_iff {P : Prog} {l : List Nd} {b : Int} {sm : Bool} (hv : validB P = true) (hp : provedF P l = (b, sm, 0)) : noneB P l = !sm := by
  simp only [noneB, checkF, hp, hv]
  cases sm <;> simp
end Go.Proofs.Ytlenfbnoobpdaaa
