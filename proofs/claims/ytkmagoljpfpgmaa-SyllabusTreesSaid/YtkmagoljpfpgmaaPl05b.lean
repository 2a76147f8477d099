/- Layer 5, plain: what is under a topic, in what order it is found, and what sorting makes of it. -/
import Derived.Test.YtkmagoljpfpgmaaPl05
namespace Go.Proofs.Ytkmagoljpfpgmaa
set_option linter.unusedVariables false
set_option linter.unusedSimpArgs false
set_option linter.unnecessarySimpa false
section
variable {p : Nat → Int} (hp : ∀ k, -1 ≤ p k ∧ p k < k)
def kid (p : Nat → Int) (t x : Nat) : Bool := decide (t < x ∧ p x = t)
def dfs (p : Nat → Int) (n : Nat) : Nat → Nat → List Nat
  | 0, t => [t]
  | f + 1, t => t :: ((List.range n).filter (kid p t)).flatMap (dfs p n f)
theorem dfs_lt {n : Nat} : ∀ {f t x : Nat}, t < n → x ∈ dfs p n f t → x < n
  | 0, t, x, ht, h => by simp [dfs] at h; omega
  | f + 1, t, x, ht, h => by
    simp only [dfs, List.mem_cons, List.mem_flatMap, List.mem_filter, List.mem_range] at h
    rcases h with rfl | ⟨c, ⟨hc, -⟩, h⟩
    · exact ht
    · exact dfs_lt hc h
theorem sum_filter {q : Nat → Bool} {g : Nat → Nat} : ∀ {n : Nat}, ((((List.range n).filter q).map g).sum : Int) = sumN (fun c => if q c = true then (g c : Int) else 0) n
  | 0 => rfl
  | n + 1 => by
    rw [List.range_succ, List.filter_append, List.map_append, List.sum_append, Int.natCast_add, sum_filter (n := n), sumN]
    congr 1
    cases h : q n <;> simp [h]
include hp in
theorem dfs_count (n : Nat) : ∀ (f t x : Nat), t < n → x < n → n ≤ f + t + 1 → ((dfs p n f t).count x : Int) = if Ab p t x = true then 1 else 0
  | 0, t, x, ht, hx, hf => by
    by_cases e : t = x
    · subst e; simp [dfs, Ab_self hp]
    · have : ¬ Ab p t x = true := fun h => by have := Ab_le hp t x h; omega
      simp [dfs, e, this]
  | f + 1, t, x, ht, hx, hf => by
    rw [dfs, List.count_cons, List.count_flatMap, Int.natCast_add]
    have e1 : ((((List.range n).filter (kid p t)).map (List.count x ∘ dfs p n f)).sum : Int) = sumN (fun c => if p c = t ∧ Ab p c x = true then 1 else 0) n := by
      rw [sum_filter]
      refine sumN_congr fun c hc => ?_
      by_cases hk : kid p t c = true
      · have hk' : t < c ∧ p c = t := by simpa [kid] using hk
        rw [if_pos hk]
        show ((dfs p n f c).count x : Int) = _
        rw [dfs_count n f c x hc hx (by omega)]
        simp [hk'.2]
      · rw [if_neg hk, if_neg]
        rintro ⟨h1, -⟩
        have := hp c
        exact hk (by simp [kid]; omega)
    rw [e1, child_count hp t n x hx]
    by_cases e : t = x
    · subst e; simp [Ab_self hp]
    · have : x ≠ t := fun h => e h.symm
      simp [e, this]
/-- The topics under t, in order. -/
def underN (p : Nat → Int) (n t : Nat) : List Nat := (List.range n).filter (Ab p t)
theorem count_filter_range {q : Nat → Bool} {x : Nat} : ∀ {n : Nat}, ((List.range n).filter q).count x = if x < n ∧ q x = true then 1 else 0
  | 0 => by simp
  | n + 1 => by
    rw [List.range_succ, List.filter_append, List.count_append, count_filter_range]
    by_cases e : x = n
    · subst e
      cases h : q x <;> simp [h]
    · have e' : ¬ n = x := fun h => e h.symm
      have : (x < n + 1 ∧ q x = true) ↔ (x < n ∧ q x = true) := ⟨fun h => ⟨by omega, h.2⟩, fun h => ⟨by omega, h.2⟩⟩
      simp only [this]
      cases h : q n
      · simp [h]
      · simp [h, e']
include hp in
theorem dfs_perm {n t : Nat} (ht : t < n) : (dfs p n n t).Perm (underN p n t) := by
  rw [List.perm_iff_count]
  intro x
  rw [underN, count_filter_range]
  by_cases hx : x < n
  · have := dfs_count hp n n t x ht hx (by omega)
    by_cases h : Ab p t x = true
    · rw [if_pos h] at this; rw [if_pos ⟨hx, h⟩]; omega
    · rw [if_neg h] at this; rw [if_neg (fun e => h e.2)]; omega
  · rw [if_neg (fun e => hx e.1)]
    exact List.count_eq_zero.2 fun h => hx (dfs_lt ht h)
def toI (l : List Nat) : List Int := l.map fun x : Nat => (x : Int)
theorem toI_sorted {l : List Nat} (h : l.Pairwise (· < ·)) : (toI l).Pairwise fun a b => decide (a ≤ b) = true :=
  List.Pairwise.map _ (fun a b hab => by simp; omega) h
theorem under_sorted {n t : Nat} : (underN p n t).Pairwise (· < ·) := List.pairwise_lt_range.filter _
include hp in
theorem dfs_sort {n t : Nat} (ht : t < n) : (toI (dfs p n n t)).mergeSort (fun x y => decide (x ≤ y)) = toI (underN p n t) := by
  refine List.Perm.eq_of_pairwise (le := fun a b : Int => decide (a ≤ b) = true) (fun a b _ _ h1 h2 => by simp at h1 h2; omega) (List.pairwise_mergeSort (fun a b c h1 h2 => by simp at h1 h2 ⊢; omega) (fun a b => by simp; omega) _) (toI_sorted under_sorted) ?_
  exact (List.mergeSort_perm _ _).trans ((dfs_perm hp ht).map _)
/-- The topics above t, from t up. -/
def upN (p : Nat → Int) : Nat → Nat → List Nat
  | 0, _ => []
  | f + 1, t => t :: (if p t < 0 then [] else upN p f (p t).toNat)
def pathN (p : Nat → Int) (n t : Nat) : List Nat := (List.range n).filter fun i => Ab p i t
include hp in
theorem up_mem : ∀ {f t x : Nat}, t < f → (x ∈ upN p f t ↔ Ab p x t = true)
  | 0, t, x, h => by omega
  | f + 1, t, x, h => by
    have := hp t
    rw [upN, List.mem_cons]
    by_cases e : x = t
    · subst e; simp [Ab_self hp]
    · by_cases h0 : p t < 0
      · rw [if_pos h0, Ab_root hp h0 e]; simp [e]
      · rw [if_neg h0, Ab_up hp (by omega) e, up_mem (by omega)]; simp [e]
include hp in
theorem up_sorted : ∀ {f t : Nat}, t < f → (upN p f t).Pairwise (· > ·)
  | 0, t, h => by omega
  | f + 1, t, h => by
    have := hp t
    rw [upN, List.pairwise_cons]
    by_cases h0 : p t < 0
    · rw [if_pos h0]; simp
    · rw [if_neg h0]
      refine ⟨fun x hx => ?_, up_sorted (by omega)⟩
      have := Ab_le hp x _ ((up_mem hp (by omega)).1 hx)
      omega
theorem eq_of_mem {l l' : List Nat} (h : l.Pairwise (· < ·)) (h' : l'.Pairwise (· < ·)) (hm : ∀ x, x ∈ l ↔ x ∈ l') : l = l' := by
  have nd : ∀ {l : List Nat}, l.Pairwise (· < ·) → ∀ x, l.count x = if x ∈ l then 1 else 0 := fun {l} h x => by
    have hn : l.Nodup := h.imp fun hab => Nat.ne_of_lt hab
    exact hn.count
  refine List.Perm.eq_of_pairwise (le := (· < ·)) (fun a b _ _ h1 h2 => by omega) h h' (List.perm_iff_count.2 fun x => ?_)
  rw [nd h, nd h']
  by_cases hx : x ∈ l
  · rw [if_pos hx, if_pos ((hm x).1 hx)]
  · rw [if_neg hx, if_neg fun h => hx ((hm x).2 h)]
include hp in
theorem path_eq {n t : Nat} (ht : t < n) : (upN p (t + 1) t).reverse = pathN p n t := by
  refine eq_of_mem ((List.pairwise_reverse).2 (up_sorted hp (by omega))) (List.pairwise_lt_range.filter _) fun x => ?_
  rw [List.mem_reverse, up_mem hp (by omega), pathN, List.mem_filter, List.mem_range]
  exact ⟨fun h => ⟨by have := Ab_le hp x t h; omega, h⟩, fun h => h.2⟩
/-- The greatest topic below k that is above both. -/
def comN (p : Nat → Int) (a b : Nat) : Nat → Int
  | 0 => -1
  | k + 1 => if Ab p k a = true ∧ Ab p k b = true then k else comN p a b k
theorem com_congr {a b a' b' : Nat} : ∀ {k : Nat}, (∀ i, i < k → ((Ab p i a = true ∧ Ab p i b = true) ↔ (Ab p i a' = true ∧ Ab p i b' = true))) → comN p a b k = comN p a' b' k
  | 0, _ => rfl
  | k + 1, h => by
    rw [comN, comN, com_congr fun i hi => h i (by omega)]
    by_cases e : Ab p k a = true ∧ Ab p k b = true
    · rw [if_pos e, if_pos ((h k (by omega)).1 e)]
    · rw [if_neg e, if_neg fun e' => e ((h k (by omega)).2 e')]
theorem com_none {a b : Nat} : ∀ {k : Nat}, (∀ i, i < k → ¬ (Ab p i a = true ∧ Ab p i b = true)) → comN p a b k = -1
  | 0, _ => rfl
  | k + 1, h => by rw [comN, if_neg (h k (by omega)), com_none fun i hi => h i (by omega)]
theorem com_at {a b x : Nat} : ∀ {k : Nat}, x < k → Ab p x a = true ∧ Ab p x b = true → (∀ i, i < k → x < i → ¬ (Ab p i a = true ∧ Ab p i b = true)) → comN p a b k = x
  | 0, h, _, _ => by omega
  | k + 1, h, h1, h2 => by
    rw [comN]
    by_cases e : x = k
    · subst e; rw [if_pos h1]
    · rw [if_neg (h2 k (by omega) (by omega)), com_at (by omega) h1 fun i hi => h2 i (by omega)]
include hp in
theorem com_same {a n : Nat} (ha : a < n) : comN p a a n = a :=
  com_at ha ⟨Ab_self hp a, Ab_self hp a⟩ fun i _ hi h => by have := Ab_le hp i a h.1; omega
include hp in
theorem com_up {a b n : Nat} (hb : b < a) (ha : a < n) : comN p a b n = if p a < 0 then -1 else comN p (p a).toNat b n := by
  by_cases h0 : p a < 0
  · rw [if_pos h0]
    refine com_none fun i _ h => ?_
    by_cases e : i = a
    · subst e; have := Ab_le hp i b h.2; omega
    · rw [Ab_root hp h0 e] at h; cases h.1
  · rw [if_neg h0]
    refine com_congr fun i _ => ?_
    by_cases e : i = a
    · subst e
      have h1 : ¬ Ab p i b = true := fun h => by have := Ab_le hp i b h; omega
      simp [h1]
    · rw [Ab_up hp (by omega) e]
theorem com_comm {a b n : Nat} : comN p a b n = comN p b a n := by
  induction n with
  | zero => rfl
  | succ n ih => rw [comN, comN, ih]; simp only [and_comm]
end
end Go.Proofs.Ytkmagoljpfpgmaa
