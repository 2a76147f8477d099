/- Layer 5: the law SyllabusInverse. -/
import Derived.Test.YtkmagoljpfpgmaaGL05t
import Derived.Test.YtkmagoljpfpgmaaGL05v
namespace Go.Proofs.Ytkmagoljpfpgmaa
set_option linter.unusedVariables false
set_option linter.unusedSimpArgs false
set_option linter.unnecessarySimpa false
set_option linter.unusedSectionVars false
set_option maxRecDepth 10000
open Go.RowKit
def plGL05w_0 : Plan := (.take 0 (.take 1 (.take 3 (.take 4 (.alt 2 (.alt 5 (.take 6 (.take 7 .done)) .stop) .stop)))))
def plGL05w_1 : Plan := (.take 1 (.take 4 (.alt 0 (.alt 2 (.alt 3 (.alt 5 (.take 6 (.take 7 .done)) .stop) .stop) (.alt 3 (.alt 2 (.alt 5 (.take 6 (.take 7 .done)) .stop) .stop) .stop)) (.alt 3 (.alt 0 (.alt 2 (.alt 5 (.take 6 (.take 7 .done)) .stop) .stop) .stop) .stop))))
def plGL05w_2 : Plan := (.take 0 (.take 1 (.take 2 (.take 3 (.take 4 (.take 5 (.take 6 (.take 7 (.take 8 (.take 9 (.take 10 (.take 11 (.take 12 (.take 13 (.take 14 (.take 15 (.take 16 (.take 17 (.take 18 (.take 19 (.take 20 .done)))))))))))))))))))))
def plGL05w_3 : Plan := (.take 0 (.take 1 (.take 2 (.take 3 (.take 4 (.take 5 (.take 6 (.take 7 (.take 8 (.take 9 (.take 10 (.take 11 (.take 12 (.take 13 (.take 15 (.take 16 (.take 17 (.alt 14 (.alt 18 (.take 19 (.take 20 .done)) .stop) (.alt 18 (.alt 14 (.take 19 (.take 20 .done)) .stop) .stop)))))))))))))))))))
def plGL05w_4 : Plan := (.take 0 (.take 1 (.take 3 (.take 4 (.take 6 (.alt 2 (.alt 5 (.alt 7 (.take 8 (.take 9 (.take 10 (.take 11 (.alt 12 (.take 13 (.take 14 (.take 15 (.take 16 (.take 17 (.take 18 (.take 19 (.take 20 (.take 22 (.take 23 (.alt 21 (.alt 24 (.take 25 (.take 26 (.alt 27 (.take 28 (.take 29 (.take 30 (.take 32 (.take 33 (.take 35 (.alt 31 (.alt 34 (.take 36 (.take 37 (.take 38 (.alt 39 (.take 40 (.take 41 .done)) .stop)))) .stop) .stop))))))) .stop))) .stop) (.alt 24 (.alt 21 (.take 25 (.take 26 (.alt 27 (.take 28 (.take 29 (.take 30 (.take 32 (.take 33 (.take 35 (.alt 31 (.alt 34 (.take 36 (.take 37 (.take 38 (.alt 39 (.take 40 (.take 41 .done)) .stop)))) .stop) .stop))))))) .stop))) .stop) .stop)))))))))))) .stop))))) .stop) .stop) .stop))))))
def plGL05w_5 : Plan := (.take 0 (.take 1 (.take 4 (.take 6 (.alt 2 (.alt 3 (.alt 5 (.alt 7 (.take 8 (.take 9 (.take 10 (.take 11 (.alt 12 (.take 13 (.take 14 (.take 15 (.take 16 (.take 17 (.take 18 (.take 19 (.take 20 (.take 22 (.take 23 (.alt 21 (.alt 24 (.take 25 (.take 26 (.alt 27 (.take 28 (.take 29 (.take 30 (.take 32 (.take 33 (.take 35 (.alt 31 (.alt 34 (.take 36 (.take 37 (.take 38 (.alt 39 (.take 40 (.take 41 .done)) .stop)))) .stop) .stop))))))) .stop))) .stop) (.alt 24 (.alt 21 (.take 25 (.take 26 (.alt 27 (.take 28 (.take 29 (.take 30 (.take 32 (.take 33 (.take 35 (.alt 31 (.alt 34 (.take 36 (.take 37 (.take 38 (.alt 39 (.take 40 (.take 41 .done)) .stop)))) .stop) .stop))))))) .stop))) .stop) .stop)))))))))))) .stop))))) .stop) .stop) .stop) (.alt 3 (.alt 2 (.alt 5 (.alt 7 (.take 8 (.take 9 (.take 10 (.take 11 (.alt 12 (.take 13 (.take 14 (.take 15 (.take 16 (.take 17 (.take 18 (.take 19 (.take 20 (.take 22 (.take 23 (.alt 21 (.alt 24 (.take 25 (.take 26 (.alt 27 (.take 28 (.take 29 (.take 30 (.take 32 (.take 33 (.take 35 (.alt 31 (.alt 34 (.take 36 (.take 37 (.take 38 (.alt 39 (.take 40 (.take 41 .done)) .stop)))) .stop) .stop))))))) .stop))) .stop) (.alt 24 (.alt 21 (.take 25 (.take 26 (.alt 27 (.take 28 (.take 29 (.take 30 (.take 32 (.take 33 (.take 35 (.alt 31 (.alt 34 (.take 36 (.take 37 (.take 38 (.alt 39 (.take 40 (.take 41 .done)) .stop)))) .stop) .stop))))))) .stop))) .stop) .stop)))))))))))) .stop))))) .stop) .stop) .stop) .stop))))))
def plGL05w_6 : Plan := (.take 1 (.take 4 (.alt 0 (.altM 2 (.alt 3 (.altM 5 (.take 6 (.take 7 .done)) .stop) .stop) (.alt 3 (.altM 2 (.altM 5 (.take 6 (.take 7 .done)) .stop) .stop) .stop)) (.alt 3 (.alt 0 (.altM 2 (.altM 5 (.take 6 (.take 7 .done)) .stop) .stop) .stop) .stop))))
def plGL05w_7 : Plan := (.take 0 (.take 1 (.take 4 (.take 6 (.altM 2 (.alt 3 (.altM 5 (.altM 7 (.take 8 (.take 9 (.take 10 (.take 11 (.altM 12 (.take 13 (.take 14 (.take 15 (.take 16 (.take 17 (.take 18 (.take 19 (.take 20 (.take 22 (.take 23 (.alt 21 (.alt 24 (.take 25 (.take 26 (.alt 27 (.take 28 (.take 29 (.take 30 (.take 32 (.take 33 (.take 35 (.alt 31 (.altM 34 (.take 36 (.take 37 (.take 38 (.altM 39 (.take 40 (.take 41 .done)) .stop)))) .stop) .stop))))))) .stop))) .stop) (.alt 24 (.alt 21 (.take 25 (.take 26 (.alt 27 (.take 28 (.take 29 (.take 30 (.take 32 (.take 33 (.take 35 (.alt 31 (.altM 34 (.take 36 (.take 37 (.take 38 (.altM 39 (.take 40 (.take 41 .done)) .stop)))) .stop) .stop))))))) .stop))) .stop) .stop)))))))))))) .stop))))) .stop) .stop) .stop) (.alt 3 (.altM 2 (.altM 5 (.altM 7 (.take 8 (.take 9 (.take 10 (.take 11 (.altM 12 (.take 13 (.take 14 (.take 15 (.take 16 (.take 17 (.take 18 (.take 19 (.take 20 (.take 22 (.take 23 (.alt 21 (.alt 24 (.take 25 (.take 26 (.alt 27 (.take 28 (.take 29 (.take 30 (.take 32 (.take 33 (.take 35 (.alt 31 (.altM 34 (.take 36 (.take 37 (.take 38 (.altM 39 (.take 40 (.take 41 .done)) .stop)))) .stop) .stop))))))) .stop))) .stop) (.alt 24 (.alt 21 (.take 25 (.take 26 (.alt 27 (.take 28 (.take 29 (.take 30 (.take 32 (.take 33 (.take 35 (.alt 31 (.altM 34 (.take 36 (.take 37 (.take 38 (.altM 39 (.take 40 (.take 41 .done)) .stop)))) .stop) .stop))))))) .stop))) .stop) .stop)))))))))))) .stop))))) .stop) .stop) .stop) .stop))))))
theorem hasL_ok (xs : List Int) (x : Int) (hl : xs.length ≤ 1000000) : Good Try.prog TT false 21 [ints xs, .int .i64 x] (· = .bool (hasB xs x)) := by
  have L : (xs.map encI).length = xs.length := List.length_map ..
  refine good_of mixed tabOk Try.func21 rfl rfl Try.ntmps21 Try.results21 rfl rfl ?_
  (conv => whnf); (repeat' (first | (refine arith_i ⟨by omega, by omega⟩ ?_; conv => whnf) | (refine arith_u ⟨by omega, by omega⟩ ?_; conv => whnf) | (refine arith_8 ⟨by omega, by omega⟩ ?_; conv => whnf) | (refine need_i (by first | omega | (simp only [List.length_append, List.length_cons, List.length_nil, List.length_map, List.length_replicate, List.length_modify]; omega)) ?_; conv => whnf) | ((with_reducible refine branch_tt ?_); conv => whnf) | ((with_reducible refine branch_ff ?_); conv => whnf) | (with_reducible refine branch_not ?_) | ((with_reducible refine slc_e ?_); conv => whnf) | ((with_reducible refine callS_a ?_); conv => whnf) | ((with_reducible refine bld_a ?_); conv => whnf) | ((with_reducible refine own_e ?_); conv => whnf) | ((with_reducible refine branch_d (fun hq => ?_) (fun hq => ?_)) <;> (try (exfalso; omega)) <;> (conv => whnf)) | ((with_reducible refine branch_e (fun hq => ?_) (fun hq => ?_)) <;> (try (exfalso; omega)) <;> (conv => whnf)) | ((with_reducible refine branch_n (fun hq => ?_) (fun hq => ?_)) <;> (try (exfalso; omega)) <;> (conv => whnf)) | ((with_reducible refine branch_i (fun hq => ?_) (fun hq => ?_)) <;> (try (exfalso; omega)) <;> (conv => whnf))))
  refine loop_i (fun k : Nat => k ≤ xs.length ∧ ∀ j y, j < k → xs[j]? = some y → y ≠ x) (fun k => mkSt [(0, ints xs), (1, .int .i64 x), (5, .int .i64 k)] [] false) (fun k => xs.length - k) 0 ⟨Nat.zero_le _, fun j y hj => by omega⟩ (le_mk (by repeat' (first | exact trivial | rfl | apply And.intro)) (by repeat' (first | exact trivial | rfl | apply And.intro)) rfl) ?_
  rintro k ⟨hk, hall⟩
  (conv => whnf); (repeat' (first | (refine arith_i ⟨by omega, by omega⟩ ?_; conv => whnf) | (refine arith_u ⟨by omega, by omega⟩ ?_; conv => whnf) | (refine arith_8 ⟨by omega, by omega⟩ ?_; conv => whnf) | (refine need_i (by first | omega | (simp only [List.length_append, List.length_cons, List.length_nil, List.length_map, List.length_replicate, List.length_modify]; omega)) ?_; conv => whnf) | ((with_reducible refine branch_tt ?_); conv => whnf) | ((with_reducible refine branch_ff ?_); conv => whnf) | (with_reducible refine branch_not ?_) | ((refine idx_c (xs := xs) (by omega) fun y hy => ?_); conv => whnf) | ((with_reducible refine slc_e ?_); conv => whnf) | ((with_reducible refine callS_a ?_); conv => whnf) | ((with_reducible refine bld_a ?_); conv => whnf) | ((with_reducible refine own_e ?_); conv => whnf) | ((with_reducible refine branch_d (fun hq => ?_) (fun hq => ?_)) <;> (try (exfalso; omega)) <;> (conv => whnf)) | ((with_reducible refine branch_e (fun hq => ?_) (fun hq => ?_)) <;> (try (exfalso; omega)) <;> (conv => whnf)) | ((with_reducible refine branch_n (fun hq => ?_) (fun hq => ?_)) <;> (try (exfalso; omega)) <;> (conv => whnf)) | ((with_reducible refine branch_i (fun hq => ?_) (fun hq => ?_)) <;> (try (exfalso; omega)) <;> (conv => whnf))))
  all_goals first
    | (have e : y = x := by assumption
       exact ret_p rfl (by rw [(hasB_iff (xs := xs) (x := x)).2 (e ▸ List.mem_of_getElem? hy)]))
    | (have e : y ≠ x := by assumption
       refine ⟨k + 1, ⟨by omega, fun j z hj hz => ?_⟩, (le_mk (by repeat' (first | exact trivial | rfl | apply And.intro)) (by repeat' (first | exact trivial | rfl | apply And.intro)) rfl), by omega⟩
       rcases Nat.lt_or_ge j k with h' | h'
       · exact hall j z h' hz
       · obtain rfl : j = k := by omega
         rw [hy] at hz; injection hz with hz; exact hz ▸ e)
    | (refine ret_p rfl ?_
       have : hasB xs x = false := by
         cases hh : hasB xs x with
         | false => rfl
         | true =>
           obtain ⟨i, hi, he⟩ := List.mem_iff_getElem.1 (hasB_iff.1 hh)
           exact absurd he (hall i _ (by omega) (List.getElem?_eq_getElem hi))
       rw [this])
structure ChainL (p : Nat → Int) (l : List Nat) : Prop where
  root : ∀ z, l[0]? = some z → p z < 0
  up : ∀ (k a b : Nat), l[k]? = some a → l[k + 1]? = some b → p b = a
theorem chain_snoc {p : Nat → Int} {l : List Nat} {t : Nat} (h : ChainL p l) (h0 : l = [] → p t < 0) (h1 : ∀ a, l[l.length - 1]? = some a → l ≠ [] → p t = a) : ChainL p (l ++ [t]) := by
  constructor
  · intro z hz
    cases l with
    | nil => simp at hz; subst hz; exact h0 rfl
    | cons y l => simp at hz; subst hz; exact h.root _ (by simp)
  · intro k a b ha hb
    rcases Nat.lt_trichotomy (k + 1) l.length with hk | hk | hk
    · rw [List.getElem?_append_left (by omega)] at ha hb
      exact h.up k a b ha hb
    · rw [List.getElem?_append_left (by omega)] at ha
      rw [List.getElem?_append_right (by omega), hk, Nat.sub_self] at hb
      simp at hb; subst hb
      exact h1 a (by rw [← hk]; simpa using ha) (fun e => by rw [e] at hk; simp at hk)
    · rw [List.getElem?_append_right (by omega)] at hb
      rw [List.getElem?_eq_none (by simp; omega)] at hb; cases hb
theorem chain_up {p : Nat → Int} (hp : ∀ k, -1 ≤ p k ∧ p k < k) : ∀ (m t : Nat), t ≤ m → ChainL p (upI p (t : Int)).reverse := by
  intro m
  induction m with
  | zero =>
    intro t ht
    have := hp t
    rw [upI_step hp (by omega), List.reverse_cons, upI, if_pos (by rw [Int.toNat_natCast]; omega), Int.toNat_natCast]
    exact chain_snoc ⟨by simp, by simp⟩ (fun _ => by omega) (fun a _ h => absurd rfl h)
  | succ m ih =>
    intro t ht
    have hpt := hp t
    rw [upI_step hp (by omega), List.reverse_cons, Int.toNat_natCast]
    by_cases h0 : p t < 0
    · rw [upI, if_pos h0]
      exact chain_snoc ⟨by simp, by simp⟩ (fun _ => h0) (fun a _ h => absurd rfl h)
    · obtain ⟨u, hu⟩ : ∃ u : Nat, p t = u := ⟨(p t).toNat, by omega⟩
      rw [hu]
      refine chain_snoc (ih u (by omega)) (fun e => ?_) (fun a ha _ => ?_)
      · rw [upI_step hp (by omega)] at e; simp at e
      · rw [upI_step hp (by omega), List.reverse_cons, Int.toNat_natCast] at ha
        simp at ha
        omega
theorem chain_path {p : Nat → Int} (hp : ∀ k, -1 ≤ p k ∧ p k < k) {n t : Nat} (ht : t < n) : ChainL p (pathN p n t) := by
  have h := chain_up hp t t (Nat.le_refl _)
  rw [upI, if_neg (by omega), Int.toNat_natCast, path_eq hp ht] at h
  exact h
theorem chain_same {p : Nat → Int} {P Q : List Nat} (hP : ChainL p P) (hQ : ChainL p Q) : ∀ (i j z : Nat), P[i]? = some z → Q[j]? = some z → i = j ∧ ∀ l, l ≤ i → P[l]? = Q[l]?
  | 0, 0, z, h1, h2 => ⟨rfl, fun l hl => by rw [show l = 0 by omega, h1, h2]⟩
  | 0, j + 1, z, h1, h2 => by
    obtain ⟨a, ha⟩ : ∃ a, Q[j]? = some a := ⟨_, List.getElem?_eq_getElem (by have := (List.getElem?_eq_some_iff.1 h2).1; omega)⟩
    have := hQ.up j a z ha h2
    have := hP.root z h1
    omega
  | i + 1, 0, z, h1, h2 => by
    obtain ⟨a, ha⟩ : ∃ a, P[i]? = some a := ⟨_, List.getElem?_eq_getElem (by have := (List.getElem?_eq_some_iff.1 h1).1; omega)⟩
    have := hP.up i a z ha h1
    have := hQ.root z h2
    omega
  | i + 1, j + 1, z, h1, h2 => by
    obtain ⟨a, ha⟩ : ∃ a, P[i]? = some a := ⟨_, List.getElem?_eq_getElem (by have := (List.getElem?_eq_some_iff.1 h1).1; omega)⟩
    obtain ⟨b, hb⟩ : ∃ b, Q[j]? = some b := ⟨_, List.getElem?_eq_getElem (by have := (List.getElem?_eq_some_iff.1 h2).1; omega)⟩
    have e1 := hP.up i a z ha h1
    have e2 := hQ.up j b z hb h2
    have e3 : a = b := by omega
    subst e3
    obtain ⟨e4, h4⟩ := chain_same hP hQ i j a ha hb
    refine ⟨by omega, fun l hl => ?_⟩
    rcases Nat.lt_or_ge l (i + 1) with h | h
    · exact h4 l (by omega)
    · rw [show l = i + 1 by omega, h1, e4, h2]
theorem path_mem {p : Nat → Int} {n t x : Nat} : x ∈ pathN p n t ↔ x < n ∧ Ab p x t = true := by rw [pathN, List.mem_filter, List.mem_range]
theorem under_mem {p : Nat → Int} {n t x : Nat} : x ∈ underN p n t ↔ x < n ∧ Ab p t x = true := by rw [underN, List.mem_filter, List.mem_range]
/-- Where the paths part. -/
theorem last_com {p : Nat → Int} (hp : ∀ k, -1 ≤ p k ∧ p k < k) {n x y i : Nat} (hx : x < n) (hy : y < n) (hpre : ∀ j, j < i → (pathN p n x)[j]? = (pathN p n y)[j]?) (hi1 : i ≤ (pathN p n x).length) (hi2 : i ≤ (pathN p n y).length)
    (hend : i = (pathN p n x).length ∨ i = (pathN p n y).length ∨ (pathN p n x)[i]? ≠ (pathN p n y)[i]?) : comN p x y n = if i = 0 then -1 else (((pathN p n x)[i - 1]?.getD 0 : Nat) : Int) := by
  have hc : ∀ z, Ab p z x = true ∧ Ab p z y = true → z < n → ∃ j, j < i ∧ (pathN p n x)[j]? = some z := by
    rintro z ⟨h1, h2⟩ hz
    obtain ⟨j, hj⟩ := List.mem_iff_getElem?.1 (path_mem.2 ⟨hz, h1⟩)
    obtain ⟨k, hk⟩ := List.mem_iff_getElem?.1 (path_mem.2 ⟨hz, h2⟩)
    obtain ⟨rfl, hl⟩ := chain_same (chain_path hp hx) (chain_path hp hy) j k z hj hk
    refine ⟨j, ?_, hj⟩
    rcases Nat.lt_or_ge j i with h | h
    · exact h
    · exfalso
      have b1 := (List.getElem?_eq_some_iff.1 hj).1
      have b2 := (List.getElem?_eq_some_iff.1 hk).1
      rcases hend with h | h | h
      · omega
      · omega
      · exact h (hl i (by omega))
  cases i with
  | zero =>
    rw [if_pos rfl]
    exact com_none fun z hz h => by obtain ⟨j, hj, -⟩ := hc z h hz; omega
  | succ i =>
    obtain ⟨z, hz⟩ : ∃ z, (pathN p n x)[i]? = some z := ⟨_, List.getElem?_eq_getElem (by omega)⟩
    rw [if_neg (by omega), Nat.add_sub_cancel, hz]
    show comN p x y n = ((z : Nat) : Int)
    have m1 := path_mem.1 (List.mem_of_getElem? hz)
    have m2 := path_mem.1 (List.mem_of_getElem? ((hpre i (by omega)) ▸ hz))
    refine com_at m1.1 ⟨m1.2, m2.2⟩ fun w hw hzw h => ?_
    obtain ⟨j, hj, hjw⟩ := hc w h hw
    have hs : (pathN p n x).Pairwise (· < ·) := List.pairwise_lt_range.filter _
    rcases Nat.lt_or_ge j i with hji | hji
    · obtain ⟨c1, c2⟩ := List.getElem?_eq_some_iff.1 hjw
      obtain ⟨c3, c4⟩ := List.getElem?_eq_some_iff.1 hz
      have := List.pairwise_iff_getElem.1 hs j i c1 c3 hji
      omega
    · have : j = i := by omega
      subst this
      rw [hz] at hjw; injection hjw with hjw; omega
theorem toI_at {l : List Nat} {i : Nat} {v : Int} (h : (toI l)[i]? = some v) : ∃ a : Nat, l[i]? = some a ∧ v = a := by
  rw [toI, List.getElem?_map] at h
  cases e : l[i]? with
  | none => rw [e] at h; cases h
  | some a => rw [e] at h; injection h with h; exact ⟨a, rfl, h.symm⟩
theorem toI_mem {l : List Nat} {x : Nat} : hasB (toI l) x = true ↔ x ∈ l := by
  rw [hasB_iff, toI, List.mem_map]
  constructor
  · rintro ⟨a, h, e⟩; rw [show x = a by omega]; exact h
  · intro h; exact ⟨x, h, rfl⟩
set_option maxHeartbeats 4000000 in
theorem inverse_law (xs : List Int) (a b : Int) (hx : xs.length ≤ 9223372036854775807) : Good Try.prog TT false 5 [ints xs, .int .i64 a, .int .i64 b] (· = .bool true) := by
  refine good_of mixed tabOk Try.func5 rfl rfl Try.ntmps5 Try.results5 rfl rfl ?_
  (conv => whnf); (repeat' (first | (refine arith_i ⟨by omega, by omega⟩ ?_; conv => whnf) | (refine arith_u ⟨by omega, by omega⟩ ?_; conv => whnf) | (refine arith_8 ⟨by omega, by omega⟩ ?_; conv => whnf) | (refine need_i (by first | omega | (simp only [List.length_append, List.length_cons, List.length_nil, List.length_map, List.length_replicate, List.length_modify]; omega)) ?_; conv => whnf) | ((with_reducible refine branch_tt ?_); conv => whnf) | ((with_reducible refine branch_ff ?_); conv => whnf) | (with_reducible refine branch_not ?_) | ((refine call_e (new_ok xs hx) ?_); conv => whnf) | (((refine call_i (syllabus1_ok 0 (by omega)) fun r hr => ?_; obtain ⟨s, rfl, hs, hb⟩ := hr; obtain ⟨hb1, hb2, hb3, hn1⟩ := hb rfl; have hc := base_check hb1 hb2 hb3; have hV := par_valid hc; have h1000 := hs.1; have L1 : (s.tops.map encTpc).length = s.tops.length := List.length_map ..)); conv => whnf) | ((refine call_e (cut_ok _ _ (by omega)) ?_); conv => whnf) | (((have hxa := cutG_in a ((s.tops.map encTpc).length : Int) (by omega); have hyb := cutG_in b ((s.tops.map encTpc).length : Int) (by omega); obtain ⟨x, hx'⟩ : ∃ x : Nat, cutG a ((s.tops.map encTpc).length : Int) = x := ⟨(cutG a ((s.tops.map encTpc).length : Int)).toNat, by omega⟩; obtain ⟨y, hy'⟩ : ∃ y : Nat, cutG b ((s.tops.map encTpc).length : Int) = y := ⟨(cutG b ((s.tops.map encTpc).length : Int)).toNat, by omega⟩; rw [hx', hy']; rw [hx'] at hxa; rw [hy'] at hyb; clear hx' hy'; have htx : topB s (x : Int) = true := (by simp [topB, hc]; omega); have hty : topB s (y : Int) = true := (by simp [topB, hc]; omega); have hPx : pathF s (x : Int) = toI (pathN (parF s) s.tops.length x) := (by rw [pathF, if_pos htx, Int.toNat_natCast]); have hPy : pathF s (y : Int) = toI (pathN (parF s) s.tops.length y) := (by rw [pathF, if_pos hty, Int.toNat_natCast]); have hUx : underF s (x : Int) = toI (underN (parF s) s.tops.length x) := (by rw [underF, if_pos htx, Int.toNat_natCast]); have hxn : x < s.tops.length := (by omega); have hyn : y < s.tops.length := (by omega))); conv => whnf) | ((refine call_e ((path_ok s hs (x : Int)).mono fun r h => h.trans (congrArg ints hPx)) ?_); conv => whnf) | ((refine call_e ((path_ok s hs (y : Int)).mono fun r h => h.trans (congrArg ints hPy)) ?_); conv => whnf) | ((with_reducible refine slc_e ?_); conv => whnf) | ((with_reducible refine callS_a ?_); conv => whnf) | ((with_reducible refine bld_a ?_); conv => whnf) | ((with_reducible refine own_e ?_); conv => whnf) | (refine draw_i 8 plGL05w_0 (by decide +kernel) ?_; (conv => whnf); fail_if_success (guard_target =~ False)) | (refine draw_i 8 plGL05w_1 (by decide +kernel) ?_; (conv => whnf); fail_if_success (guard_target =~ False)) | (refine draw_i 21 plGL05w_2 (by decide +kernel) ?_; (conv => whnf); fail_if_success (guard_target =~ False)) | (refine draw_i 21 plGL05w_3 (by decide +kernel) ?_; (conv => whnf); fail_if_success (guard_target =~ False)) | (refine draw_i 42 plGL05w_4 (by decide +kernel) ?_; (conv => whnf); fail_if_success (guard_target =~ False)) | (refine draw_i 42 plGL05w_5 (by decide +kernel) ?_; (conv => whnf); fail_if_success (guard_target =~ False)) | ((with_reducible refine And.intro ?_ ?_) <;> (conv => whnf)) | (with_reducible exact trivial) | ((with_reducible refine branch_d (fun hq => ?_) (fun hq => ?_)) <;> (try (exfalso; omega)) <;> (conv => whnf)) | ((with_reducible refine branch_e (fun hq => ?_) (fun hq => ?_)) <;> (try (exfalso; omega)) <;> (conv => whnf)) | ((with_reducible refine branch_n (fun hq => ?_) (fun hq => ?_)) <;> (try (exfalso; omega)) <;> (conv => whnf)) | ((with_reducible refine branch_i (fun hq => ?_) (fun hq => ?_)) <;> (try (exfalso; omega)) <;> (conv => whnf))))
  obtain ⟨P, eP⟩ : ∃ P, P = pathN (parF s) s.tops.length x := ⟨_, rfl⟩
  obtain ⟨Q, eQ⟩ : ∃ Q, Q = pathN (parF s) s.tops.length y := ⟨_, rfl⟩
  have hlc := fun i => last_com hV hxn hyn (i := i)
  have hrt := (chain_path hV hxn).root
  have hmP := fun z => path_mem (p := parF s) (n := s.tops.length) (t := x) (x := z)
  have hmQ := fun z => path_mem (p := parF s) (n := s.tops.length) (t := y) (x := z)
  have hlP : (pathN (parF s) s.tops.length x).length ≤ s.tops.length := filt_len
  have hlQ : (pathN (parF s) s.tops.length y).length ≤ s.tops.length := filt_len
  have hlU : (underN (parF s) s.tops.length x).length ≤ s.tops.length := filt_len
  rw [← eP, ← eQ] at hlc
  simp only [← eP] at hrt hmP hlP ⊢
  simp only [← eQ] at hmQ hlQ ⊢
  have hxP : x ∈ P := (hmP x).2 ⟨hxn, Ab_self hV x⟩
  have hP0 : 1 ≤ P.length := List.length_pos_of_mem hxP
  have LP : ((toI P).map encI).length = P.length := by simp [toI]
  have LQ : ((toI Q).map encI).length = Q.length := by simp [toI]
  have TP : (toI P).length = P.length := toI_len
  have TQ : (toI Q).length = Q.length := toI_len
  have hH1 : Good Try.prog TT false 21 [ints (toI Q), .int .i64 x] (· = .bool (Ab (parF s) x y)) := (hasL_ok (toI Q) x (by omega)).mono fun r h => h.trans (bool_eq (by
    rw [Bool.eq_iff_iff, toI_mem, hmQ]; exact ⟨fun h => h.2, fun h => ⟨hxn, h⟩⟩))
  have hH2 : Good Try.prog TT false 21 [ints (toI (underN (parF s) s.tops.length x)), .int .i64 y] (· = .bool (Ab (parF s) x y)) := (hasL_ok _ y (by rw [toI_len]; omega)).mono fun r h => h.trans (bool_eq (by
    rw [Bool.eq_iff_iff, toI_mem, under_mem]; exact ⟨fun h => h.2, fun h => ⟨hyn, h⟩⟩))
  have hH3 : Good Try.prog TT false 21 [ints (toI P), .int .i64 x] (· = .bool true) := (hasL_ok (toI P) x (by omega)).mono fun r h => h.trans (bool_eq (toI_mem.2 hxP))
  have hcF : comF s x y = comN (parF s) x y s.tops.length := by rw [comF, if_pos ⟨htx, hty⟩, comI, if_neg (by omega), Int.toNat_natCast, Int.toNat_natCast]
  refine loop_i2 (fun (i : Nat) (last : Int) => i ≤ P.length ∧ i ≤ Q.length ∧ (∀ j, j < i → P[j]? = Q[j]?) ∧ last = if i = 0 then -1 else ((P[i - 1]?.getD 0 : Nat) : Int)) (fun i last => mkSt [(1, .int .i64 x), (2, .int .i64 y), (7, .ptr 7 0), (9, ints (toI P)), (10, ints (toI Q)), (11, .int .i64 last), (12, .int .i64 i)] [(7, sylC s)] true) (fun i _ => P.length - i) 0 (-1) ⟨by omega, by omega, fun j h => by omega, rfl⟩ (le_mk (by repeat' (first | exact trivial | rfl | apply And.intro)) (by repeat' (first | exact trivial | rfl | apply And.intro)) rfl) ?_
  rintro i last ⟨hi1, hi2, hpre, hlast⟩
  have hend := hlc i hpre hi1 hi2
  rw [← hlast] at hend
  (conv => whnf); (repeat' (first | (refine arith_i ⟨by omega, by omega⟩ ?_; conv => whnf) | (refine arith_u ⟨by omega, by omega⟩ ?_; conv => whnf) | (refine arith_8 ⟨by omega, by omega⟩ ?_; conv => whnf) | (refine need_i (by first | omega | (simp only [List.length_append, List.length_cons, List.length_nil, List.length_map, List.length_replicate, List.length_modify]; omega)) ?_; conv => whnf) | ((with_reducible refine branch_tt ?_); conv => whnf) | ((with_reducible refine branch_ff ?_); conv => whnf) | (with_reducible refine branch_not ?_) | ((first | refine idx_cs (by assumption) ?_ | (refine idx_c (xs := toI P) (by omega) fun v1 hv1 => ?_; obtain ⟨a1, ha1, rfl⟩ := toI_at hv1) | (refine idx_c (xs := toI Q) (by omega) fun v2 hv2 => ?_; obtain ⟨a2, ha2, rfl⟩ := toI_at hv2) | (refine idx_m (xs := toI P) (n := 0) (by omega) (by omega) fun v0 hv0 => ?_; obtain ⟨a0, ha0, rfl⟩ := toI_at hv0; have hr0 := hrt a0 ha0; have hr1 := hV a0; have ha0n := ((hmP a0).1 (List.mem_of_getElem? ha0)).1) | (refine idx_m (xs := s.tops) (by omega) (by omega) fun u hu => ?_; have hpu := par_at hu; rw [Int.toNat_natCast] at hpu)); conv => whnf) | ((refine call_e ((comG_ok s hs (x : Int) (y : Int)).mono fun r h => h.trans (int_eq (hcF.trans (hend (by first | (left; omega) | (right; left; omega) | (right; right; intro e; rw [ha1, ha2] at e; injection e with e; omega)))))) ?_); conv => whnf) | ((refine call_e hH1 ?_); conv => whnf) | ((refine call_e hH2 ?_); conv => whnf) | ((refine call_e hH3 ?_); conv => whnf) | ((refine call_e ((under_ok s hs (x : Int)).mono fun r h => h.trans (congrArg ints hUx)) ?_); conv => whnf) | ((refine call_e awake_ok ?_); conv => whnf) | ((with_reducible refine slc_e ?_); conv => whnf) | ((with_reducible refine callS_a ?_); conv => whnf) | ((with_reducible refine bld_a ?_); conv => whnf) | ((with_reducible refine own_e ?_); conv => whnf) | (refine draw_i 8 plGL05w_0 (by decide +kernel) ?_; (conv => whnf); fail_if_success (guard_target =~ False)) | (refine draw_i 8 plGL05w_1 (by decide +kernel) ?_; (conv => whnf); fail_if_success (guard_target =~ False)) | (refine draw_i 21 plGL05w_2 (by decide +kernel) ?_; (conv => whnf); fail_if_success (guard_target =~ False)) | (refine draw_i 21 plGL05w_3 (by decide +kernel) ?_; (conv => whnf); fail_if_success (guard_target =~ False)) | (refine draw_i 42 plGL05w_4 (by decide +kernel) ?_; (conv => whnf); fail_if_success (guard_target =~ False)) | (refine draw_i 42 plGL05w_5 (by decide +kernel) ?_; (conv => whnf); fail_if_success (guard_target =~ False)) | ((with_reducible refine And.intro ?_ ?_) <;> (conv => whnf)) | (with_reducible exact trivial) | ((with_reducible refine branch_d (fun hq => ?_) (fun hq => ?_)) <;> (try (exfalso; omega)) <;> (conv => whnf)) | ((with_reducible refine branch_e (fun hq => ?_) (fun hq => ?_)) <;> (try (exfalso; omega)) <;> (conv => whnf)) | ((with_reducible refine branch_n (fun hq => ?_) (fun hq => ?_)) <;> (try (exfalso; omega)) <;> (conv => whnf)) | ((with_reducible refine branch_i (fun hq => ?_) (fun hq => ?_)) <;> (try (exfalso; omega)) <;> (conv => whnf))))
  all_goals first
    | exact ret_p rfl rfl
    | (exfalso; omega)
    | (exfalso; simp_all; done)
    | exact ⟨i + 1, (a1 : Int), ⟨by omega, by omega, fun j hj => by
        rcases Nat.lt_or_ge j i with h | h
        · exact hpre j h
        · rw [show j = i by omega, ha1, ha2, show a1 = a2 by omega], by rw [if_neg (by omega), Nat.add_sub_cancel, ha1]; rfl⟩, (le_mk (by repeat' (first | exact trivial | rfl | apply And.intro)) (by repeat' (first | exact trivial | rfl | apply And.intro)) rfl), by omega⟩
end Go.Proofs.Ytkmagoljpfpgmaa
