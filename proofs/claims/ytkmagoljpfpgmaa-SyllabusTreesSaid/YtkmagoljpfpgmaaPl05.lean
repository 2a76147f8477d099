/- Layer 5, plain: topics in a tree, marks that are rolled up. No program in sight. -/
import Derived.Test.YtkmagoljpfpgmaaMA
namespace Go.Proofs.Ytkmagoljpfpgmaa
set_option linter.unusedVariables false
set_option linter.unusedSimpArgs false
set_option linter.unnecessarySimpa false
set_option linter.unusedSectionVars false

def sumN (f : Nat → Int) : Nat → Int
  | 0 => 0
  | n + 1 => sumN f n + f n
theorem sumN_congr {f g : Nat → Int} : ∀ {n : Nat}, (∀ k, k < n → f k = g k) → sumN f n = sumN g n
  | 0, _ => rfl
  | n + 1, h => by rw [sumN, sumN, sumN_congr fun k hk => h k (by omega), h n (by omega)]
theorem sumN_add {f g : Nat → Int} : ∀ {n : Nat}, sumN (fun k => f k + g k) n = sumN f n + sumN g n
  | 0 => rfl
  | n + 1 => by rw [sumN, sumN, sumN, sumN_add]; omega
theorem sumN_zero : ∀ {n : Nat}, sumN (fun _ => 0) n = 0
  | 0 => rfl
  | n + 1 => by rw [sumN, sumN_zero]; rfl
theorem sumN_none {f : Nat → Int} {n : Nat} (h : ∀ k, k < n → f k = 0) : sumN f n = 0 := (sumN_congr h).trans sumN_zero
theorem sumN_one {f : Nat → Int} {x : Nat} : ∀ {n : Nat}, (∀ k, k < n → k ≠ x → f k = 0) → sumN f n = if x < n then f x else 0
  | 0, _ => rfl
  | n + 1, h => by
    rw [sumN]
    by_cases hx : x = n
    · subst hx
      rw [sumN_none fun k hk => h k (by omega) (by omega), if_pos (by omega)]; omega
    · rw [sumN_one fun k hk hne => h k (by omega) hne, h n (by omega) (fun e => hx e.symm)]
      by_cases h2 : x < n
      · rw [if_pos h2, if_pos (by omega)]; omega
      · rw [if_neg h2, if_neg (by omega)]; omega
theorem sumN_swap {f : Nat → Nat → Int} {m : Nat} : ∀ {n : Nat}, sumN (fun a => sumN (f a) m) n = sumN (fun b => sumN (fun a => f a b) n) m
  | 0 => (sumN_zero).symm
  | n + 1 => by
    rw [sumN, sumN_swap, ← sumN_add]
    rfl
theorem sumN_ite {c : Prop} [Decidable c] {f : Nat → Int} {n : Nat} : (if c then sumN f n else 0) = sumN (fun k => if c then f k else 0) n := by
  by_cases h : c
  · simp [h]
  · simp [h, sumN_zero]
theorem sumN_le {f : Nat → Int} {b : Int} (hb : 0 ≤ b) : ∀ {n : Nat}, (∀ k, k < n → 0 ≤ f k ∧ f k ≤ b) → 0 ≤ sumN f n ∧ sumN f n ≤ n * b
  | 0, _ => by simp [sumN]
  | n + 1, h => by
    have h1 := sumN_le hb (n := n) fun k hk => h k (by omega)
    have h2 := h n (by omega)
    rw [sumN]
    have : ((n + 1 : Nat) : Int) * b = n * b + b := by rw [Int.natCast_add, Int.add_mul]; simp
    omega

section
variable {p : Nat → Int} (hp : ∀ k, -1 ≤ p k ∧ p k < k)
def abv (p : Nat → Int) (j : Nat) : Nat → Nat → Bool
  | 0, _ => false
  | f + 1, k => j == k || (if p k < 0 then false else abv p j f (p k).toNat)
include hp in
theorem abv_fuel (j : Nat) : ∀ (f f' k : Nat), k < f → k < f' → abv p j f k = abv p j f' k
  | 0, _, _, h, _ => by omega
  | _ + 1, 0, _, _, h => by omega
  | f + 1, f' + 1, k, h, h' => by
    have := hp k
    rw [abv, abv]
    by_cases hn : p k < 0
    · simp [hn]
    · rw [abv_fuel j f f' (p k).toNat (by omega) (by omega)]
/-- Topic j is above topic k. -/
def Ab (p : Nat → Int) (j k : Nat) : Bool := abv p j (k + 1) k
include hp in
theorem Ab_step (j k : Nat) : Ab p j k = (j == k || (if p k < 0 then false else Ab p j (p k).toNat)) := by
  have := hp k
  unfold Ab
  rw [abv]
  by_cases hn : p k < 0
  · simp [hn]
  · simp only [hn, if_false]
    rw [abv_fuel hp j k ((p k).toNat + 1) (p k).toNat (by omega) (by omega)]
include hp in
theorem Ab_le (j : Nat) : ∀ (k : Nat), Ab p j k = true → j ≤ k := by
  intro k
  induction k using Nat.strongRecOn with
  | ind k ih =>
    intro h
    have hk := hp k
    rw [Ab_step hp] at h
    simp only [Bool.or_eq_true, beq_iff_eq] at h
    rcases h with h | h
    · omega
    · by_cases hn : p k < 0
      · simp [hn] at h
      · simp only [hn, if_false] at h
        have := ih (p k).toNat (by omega) h
        omega
include hp in
theorem Ab_self (j : Nat) : Ab p j j = true := by rw [Ab_step hp]; simp
include hp in
theorem Ab_up {j k : Nat} (h0 : 0 ≤ p k) (hne : j ≠ k) : Ab p j k = Ab p j (p k).toNat := by
  rw [Ab_step hp]; simp [hne, show ¬ p k < 0 by omega]
include hp in
theorem Ab_root {j k : Nat} (h0 : p k < 0) (hne : j ≠ k) : Ab p j k = false := by
  rw [Ab_step hp]; simp [hne, h0]
include hp in
/-- Below j, and not j: in exactly one child. -/
theorem child_count (j n : Nat) : ∀ k, k < n → sumN (fun c => if p c = j ∧ Ab p c k = true then 1 else 0) n = if k ≠ j ∧ Ab p j k = true then 1 else 0 := by
  intro k
  induction k using Nat.strongRecOn with
  | ind k ih =>
    intro hkn
    have hk := hp k
    by_cases h0 : p k < 0
    · rw [sumN_none, if_neg]
      · rintro ⟨h1, h2⟩
        rw [Ab_root hp h0 (fun e => h1 e.symm)] at h2; cases h2
      · intro c _
        rw [if_neg]
        rintro ⟨h1, h2⟩
        by_cases hc : c = k
        · subst hc; omega
        · rw [Ab_root hp h0 hc] at h2; cases h2
    · have hq := ih (p k).toNat (by omega) (by omega)
      have e : sumN (fun c => if p c = j ∧ Ab p c k = true then 1 else 0) n = sumN (fun c => (if p c = j ∧ c = k then 1 else 0) + (if p c = j ∧ Ab p c (p k).toNat = true then 1 else 0)) n := by
        refine sumN_congr fun c _ => ?_
        by_cases hc : c = k
        · subst hc
          have : ¬ Ab p c (p c).toNat = true := fun h => by have := Ab_le hp c _ h; omega
          simp [Ab_self hp, this]
        · rw [Ab_up hp (by omega) hc]
          simp [hc]
      rw [e, sumN_add, hq, sumN_one (x := k) (fun c _ hne => by simp [hne]), if_pos hkn]
      by_cases hj : p k = j
      · have h1 : (p k).toNat = j := by omega
        have h2 : k ≠ j := by omega
        have h3 : Ab p j k = true := by rw [Ab_up hp (by omega) (fun e => h2 e.symm), h1, Ab_self hp]
        simp [hj, h1, h2, h3]
      · have h1 : (p k).toNat ≠ j := by omega
        by_cases h2 : k = j
        · subst h2
          have : ¬ Ab p k (p k).toNat = true := fun h => by have := Ab_le hp k _ h; omega
          simp [hj, this]
        · rw [Ab_up hp (by omega) (fun e => h2 e.symm)]
          simp [hj, h1, h2]
include hp in
theorem root_count (n : Nat) : ∀ k, k < n → sumN (fun c => if p c = -1 ∧ Ab p c k = true then 1 else 0) n = 1 := by
  intro k
  induction k using Nat.strongRecOn with
  | ind k ih =>
    intro hkn
    have hk := hp k
    by_cases h0 : p k < 0
    · rw [sumN_one (x := k), if_pos hkn, Ab_self hp]
      · simp; omega
      · intro c _ hne
        rw [Ab_root hp h0 hne]; simp
    · have hq := ih (p k).toNat (by omega) (by omega)
      refine (sumN_congr fun c _ => ?_).trans hq
      by_cases hc : c = k
      · subst hc
        have h1 : ¬ p c = -1 := by omega
        simp [h1]
      · rw [Ab_up hp (by omega) hc]
/-- The marks of the topics from j down. -/
def rollS (p m : Nat → Int) (n j : Nat) : Int := sumN (fun k => if Ab p j k = true then m k else 0) n
include hp in
theorem roll_step (m : Nat → Int) {n j : Nat} (hj : j < n) : rollS p m n j = m j + sumN (fun c => if p c = j then rollS p m n c else 0) n := by
  have e : sumN (fun c => if p c = j then rollS p m n c else 0) n = sumN (fun k => if k ≠ j ∧ Ab p j k = true then m k else 0) n := by
    unfold rollS
    rw [sumN_congr (fun c _ => sumN_ite), sumN_swap]
    refine sumN_congr fun k hk => ?_
    have h := child_count hp j n k hk
    have e2 : sumN (fun c => if p c = j then if Ab p c k = true then m k else 0 else 0) n = m k * sumN (fun c => if p c = j ∧ Ab p c k = true then 1 else 0) n := by
      generalize n = n'
      induction n' with
      | zero => simp [sumN]
      | succ n ih =>
        rw [sumN, sumN, ih, Int.mul_add]
        congr 1
        by_cases h1 : p n = j <;> by_cases h2 : Ab p n k = true <;> simp [h1, h2]
    rw [e2, h]
    by_cases h1 : k ≠ j ∧ Ab p j k = true <;> simp [h1]
  rw [e]
  have e3 : m j = sumN (fun k => if k = j then m j else 0) n := by
    rw [sumN_one (x := j) (fun k _ h => by simp [h])]
    simp [hj]
  conv => rhs; rw [e3]
  rw [← sumN_add]
  refine sumN_congr fun k _ => ?_
  by_cases h : k = j
  · subst h; simp [Ab_self hp]
  · simp [h]
include hp in
theorem roots_all (m : Nat → Int) (n : Nat) : sumN (fun c => if p c = -1 then rollS p m n c else 0) n = sumN m n := by
  unfold rollS
  rw [sumN_congr (fun c _ => sumN_ite), sumN_swap]
  refine sumN_congr fun k hk => ?_
  have h := root_count hp n k hk
  have e2 : sumN (fun c => if p c = -1 then if Ab p c k = true then m k else 0 else 0) n = m k * sumN (fun c => if p c = -1 ∧ Ab p c k = true then 1 else 0) n := by
    generalize n = n'
    induction n' with
    | zero => simp [sumN]
    | succ n ih =>
      rw [sumN, sumN, ih, Int.mul_add]
      congr 1
      by_cases h1 : p n = -1 <;> by_cases h2 : Ab p n k = true <;> simp [h1, h2]
  rw [e2, h, Int.mul_one]
/-- What the backward loop holds before it has looked at the topics below i. -/
def midR (p m : Nat → Int) (n i j : Nat) : Int := if i ≤ j then rollS p m n j else m j + sumN (fun c => if i ≤ c ∧ p c = j then rollS p m n c else 0) n
theorem mid_start (m : Nat → Int) {n j : Nat} (hj : j < n) : midR p m n n j = m j := by
  unfold midR
  rw [if_neg (by omega), sumN_none (fun c hc => by rw [if_neg]; rintro ⟨h, _⟩; omega)]
  omega
include hp in
theorem mid_here (m : Nat → Int) {n x : Nat} (hx : x < n) : midR p m n (x + 1) x = rollS p m n x := by
  unfold midR
  rw [if_neg (by omega), roll_step hp m hx]
  congr 1
  refine sumN_congr fun c _ => ?_
  by_cases h : p c = x
  · have := hp c
    simp [h, show x + 1 ≤ c by omega]
  · simp [h]
include hp in
theorem mid_next (m : Nat → Int) {n x : Nat} (hx : x < n) (j : Nat) : midR p m n x j = if p x = j then midR p m n (x + 1) j + rollS p m n x else midR p m n (x + 1) j := by
  have hpx := hp x
  by_cases hj : x ≤ j
  · rw [if_neg (show ¬ p x = j by omega)]
    by_cases he : j = x
    · subst he
      rw [mid_here hp m hx, midR, if_pos (by omega)]
    · rw [midR, midR, if_pos hj, if_pos (show x + 1 ≤ j by omega)]
  · rw [midR, midR, if_neg hj, if_neg (show ¬ x + 1 ≤ j by omega)]
    have e : sumN (fun c => if x ≤ c ∧ p c = j then rollS p m n c else 0) n = sumN (fun c => (if c = x ∧ p c = j then rollS p m n c else 0) + (if x + 1 ≤ c ∧ p c = j then rollS p m n c else 0)) n := by
      refine sumN_congr fun c _ => ?_
      by_cases hc : c = x
      · subst hc; have : ¬ c + 1 ≤ c := by omega
        simp [this]
      · by_cases h2 : x ≤ c
        · have : x + 1 ≤ c := by omega
          simp [hc, h2, this]
        · have : ¬ x + 1 ≤ c := by omega
          simp [hc, h2, this]
    rw [e, sumN_add, sumN_one (x := x) (fun c _ h => by simp [h]), if_pos hx]
    by_cases h : p x = j
    · simp [h]; omega
    · simp [h]
end
end Go.Proofs.Ytkmagoljpfpgmaa
