/- Layer 25, plainly: what an allocation is like. -/
import Derived.Test.YtkbkdlkfpmcmdaaGL25v
namespace Go.Proofs.Ytkbkdlkfpmcmdaa
set_option linter.unusedVariables false
set_option linter.unusedSimpArgs false
set_option linter.unnecessarySimpa false
set_option linter.unusedSectionVars false
set_option maxRecDepth 10000
section
variable {l : List Mrk} {s : List Scr} {A : Nat → Nat → Bool}
theorem rowT_sum {i : Nat} : ∀ {k : Nat}, (rowT l s A i k).length = sumN k fun m => (A i m).toNat
  | 0 => rfl
  | k + 1 => by
    rw [rowT_next, List.length_append, rowT_sum]
    show _ = sumN k _ + (A i k).toNat
    cases A i k <;> simp
theorem tasksT_sum : ∀ {n : Nat}, (tasksT l s A n).length = sumN n fun i => rowN l.length A i
  | 0 => rfl
  | n + 1 => by
    rw [tasksT_next, List.length_append, tasksT_sum, rowT_sum]; rfl
theorem sumN_const {f : Nat → Nat} {c : Nat} : ∀ {n : Nat}, (∀ i, i < n → f i = c) → sumN n f = n * c
  | 0, _ => by simp [sumN]
  | n + 1, h => by
    show sumN n f + f n = _
    rw [sumN_const fun i hi => h i (by omega), h n (by omega), Nat.add_mul]; omega
theorem idF_inj (hA : AscM l) {m m' : Nat} (h1 : m < l.length) (h2 : m' < l.length) (h : idF l m = idF l m') : m = m' := by
  obtain ⟨x, hx⟩ : ∃ x, l[m]? = some x := ⟨_, List.getElem?_eq_getElem h1⟩
  obtain ⟨y, hy⟩ : ∃ y, l[m']? = some y := ⟨_, List.getElem?_eq_getElem h2⟩
  rw [idF_at hx, idF_at hy] at h
  rcases Nat.lt_trichotomy m m' with g | g | g
  · have := hA m m' x y g hx hy; omega
  · exact g
  · have := hA m' m y x g hy hx; omega
theorem numF_lt (hA : AscS s) {i j : Nat} (h : i < j) (hj : j < s.length) : numF s i < numF s j := by
  obtain ⟨x, hx⟩ : ∃ x, s[i]? = some x := ⟨_, List.getElem?_eq_getElem (by omega)⟩
  obtain ⟨y, hy⟩ : ∃ y, s[j]? = some y := ⟨_, List.getElem?_eq_getElem hj⟩
  rw [numF_at hx, numF_at hy]; exact asc_lt hA hx hy h
theorem idF_lt (hA : AscM l) {i j : Nat} (h : i < j) (hj : j < l.length) : idF l i < idF l j := by
  obtain ⟨x, hx⟩ : ∃ x, l[i]? = some x := ⟨_, List.getElem?_eq_getElem (by omega)⟩
  obtain ⟨y, hy⟩ : ∃ y, l[j]? = some y := ⟨_, List.getElem?_eq_getElem hj⟩
  rw [idF_at hx, idF_at hy]; exact hA i j x y h hx hy
theorem loadF_app {a b : List (Int × Int)} {m : Int} : loadF (a ++ b) m = loadF a m + loadF b m := by unfold loadF; rw [List.filter_append, List.length_append]
theorem markF_app {a b : List (Int × Int)} {m : Int} : markF (a ++ b) m = markF a m ++ markF b m := by unfold markF; rw [List.filter_append, List.map_append]
theorem rowT_load (hA : AscM l) {i m : Nat} (hm : m < l.length) : ∀ {k : Nat}, k ≤ l.length → loadF (rowT l s A i k) (idF l m) = if m < k then (A i m).toNat else 0
  | 0, _ => rfl
  | k + 1, hk => by
    rw [rowT_next, loadF_app, rowT_load hA hm (by omega)]
    rcases Nat.lt_trichotomy m k with g | g | g
    · rw [if_pos g, if_pos (show m < k + 1 by omega)]
      have hne : ¬ idF l k = idF l m := fun e => by have := idF_inj hA (by omega) hm e; omega
      cases A i k <;> simp [loadF, hne]
    · subst g
      rw [if_neg (show ¬ m < m by omega), if_pos (show m < m + 1 by omega)]
      cases A i m <;> simp [loadF]
    · rw [if_neg (show ¬ m < k by omega), if_neg (show ¬ m < k + 1 by omega)]
      have hne : ¬ idF l k = idF l m := fun e => by have := idF_inj hA (by omega) hm e; omega
      cases A i k <;> simp [loadF, hne]
theorem tasksT_load (hA : AscM l) {m : Nat} (hm : m < l.length) : ∀ {n : Nat}, loadF (tasksT l s A n) (idF l m) = colN n A m
  | 0 => rfl
  | n + 1 => by
    rw [tasksT_next, loadF_app, tasksT_load hA hm, rowT_load hA hm (Nat.le_refl _), if_pos hm]; rfl
theorem rowT_fst {i : Nat} : ∀ {k : Nat}, ∀ t ∈ rowT l s A i k, t.1 = numF s i ∧ ∃ m, m < k ∧ t.2 = idF l m ∧ A i m = true
  | 0, t, h => by simp [rowT] at h
  | k + 1, t, h => by
    rw [rowT_next, List.mem_append] at h
    rcases h with h | h
    · obtain ⟨h1, m, h2, h3⟩ := rowT_fst t h
      exact ⟨h1, m, by omega, h3⟩
    · split at h
      · next g =>
        simp only [List.mem_singleton] at h
        subst h; exact ⟨rfl, k, by omega, rfl, g⟩
      · simp at h
theorem tasksT_mem : ∀ {n : Nat}, ∀ t ∈ tasksT l s A n, ∃ i m, i < n ∧ m < l.length ∧ t = (numF s i, idF l m) ∧ A i m = true
  | 0, t, h => by simp [tasksT] at h
  | n + 1, t, h => by
    rw [tasksT_next, List.mem_append] at h
    rcases h with h | h
    · obtain ⟨i, m, h1, h2⟩ := tasksT_mem t h
      exact ⟨i, m, by omega, h2⟩
    · obtain ⟨h1, m, h2, h3, h4⟩ := rowT_fst t h
      exact ⟨n, m, by omega, h2, Prod.ext h1 h3, h4⟩
theorem markF_row {i : Nat} {k : Nat} : markF (rowT l s A i k) (numF s i) = (rowT l s A i k).map (·.2) := by
  unfold markF; rw [List.filter_eq_self.2 fun t ht => by simpa using (rowT_fst t ht).1]
theorem markF_none {ts : List (Int × Int)} {n : Int} (h : ∀ t ∈ ts, t.1 ≠ n) : markF ts n = [] := by
  unfold markF; rw [List.filter_eq_nil_iff.2 fun t ht => by simpa using h t ht]; rfl
theorem tasksT_mark (hA : AscS s) {i : Nat} (hi : i < s.length) : ∀ {n : Nat}, n ≤ s.length → (markF (tasksT l s A n) (numF s i)).length = if i < n then rowN l.length A i else 0
  | 0, _ => rfl
  | n + 1, hn => by
    rw [tasksT_next, markF_app, List.length_append, tasksT_mark hA hi (by omega)]
    rcases Nat.lt_trichotomy i n with g | g | g
    · rw [if_pos g, if_pos (by omega), markF_none fun t ht => by
        rw [(rowT_fst t ht).1]; have := numF_lt hA g (by omega); omega]
      rfl
    · subst g
      rw [if_neg (by omega), if_pos (by omega), markF_row, List.length_map, rowT_sum]
      show 0 + _ = _
      unfold rowN; omega
    · rw [if_neg (by omega), if_neg (by omega), markF_none fun t ht => by
        rw [(rowT_fst t ht).1]; have := numF_lt hA g hi; omega]
      rfl
def ltT (a b : Int × Int) : Prop := a.1 < b.1 ∨ (a.1 = b.1 ∧ a.2 < b.2)
theorem cmpT_lt {a b : Int × Int} (h : ltT a b) : cmpT a b < 0 := by
  unfold cmpT
  simp only [orF]
  rcases h with h | ⟨h1, h2⟩
  · have := cmp_lt.2 h
    rw [if_neg (by omega)]; exact this
  · have e := cmp_eq.2 h1
    have := cmp_lt.2 h2
    rw [if_pos e, if_neg (by omega)]; exact this
theorem rowT_asc (hA : AscM l) {i : Nat} : ∀ {k : Nat}, k ≤ l.length → (rowT l s A i k).Pairwise ltT
  | 0, _ => List.Pairwise.nil
  | k + 1, hk => by
    rw [rowT_next, List.pairwise_append]
    refine ⟨rowT_asc hA (by omega), by split <;> simp, fun a ha b hb => ?_⟩
    obtain ⟨h1, m, h2, h3, -⟩ := rowT_fst a ha
    split at hb
    · simp only [List.mem_singleton] at hb
      subst hb
      exact .inr ⟨h1, by rw [h3]; exact idF_lt hA h2 (by omega)⟩
    · simp at hb
theorem tasksT_asc (hA : AscM l) (hS : AscS s) : ∀ {n : Nat}, n ≤ s.length → (tasksT l s A n).Pairwise ltT
  | 0, _ => List.Pairwise.nil
  | n + 1, hn => by
    rw [tasksT_next, List.pairwise_append]
    refine ⟨tasksT_asc hA hS (by omega), rowT_asc hA (Nat.le_refl _), fun a ha b hb => ?_⟩
    obtain ⟨i, m, h1, h2, rfl, -⟩ := tasksT_mem a ha
    exact .inl (by rw [(rowT_fst b hb).1]; exact numF_lt hS h1 (by omega))
theorem findS_num (hA : AscS s) {i : Nat} (hi : i < s.length) : findS s (numF s i) = some i := by
  obtain ⟨x, hx⟩ : ∃ x, s[i]? = some x := ⟨_, List.getElem?_eq_getElem hi⟩
  exact idx_some (fun k y hk hy => by have := asc_lt hA hy hx hk; rw [numF_at hx]; omega) hx (numF_at hx).symm
theorem elig_task (hl : MksOk l) {lim : Nat → Nat} {F : Flw} (hF : WF (elF l s) lim s.length l.length F) {i m : Nat} (hi : i < s.length) (hm : m < l.length) (hA : F.A i m = true) {x : Scr} (hx : s[i]? = some x) : eligB l (idF l m) x = true := by
  obtain ⟨k, hk⟩ : ∃ k, l[m]? = some k := ⟨_, List.getElem?_eq_getElem hm⟩
  rw [idF_at hk, elig_own hl.asc hk, ← elF_at hx hk]
  exact hF.el i m hi hm hA
theorem alloc_err (hl : MksOk l) (hs : ScsOk s) {lim : Nat → Nat} {F : Flw} (hF : WF (elF l s) lim s.length l.length F) : ∀ j, taskE l s (tasksT l s F.A s.length) j = 0 := fun j => by
  unfold taskE
  cases ht : (tasksT l s F.A s.length)[j]? with
  | none => rfl
  | some t =>
    obtain ⟨i, m, h1, h2, rfl, h4⟩ := tasksT_mem t (List.mem_of_getElem? ht)
    obtain ⟨x, hx⟩ : ∃ x, s[i]? = some x := ⟨_, List.getElem?_eq_getElem h1⟩
    simp only [findS_num hs.asc h1, hx, elig_task hl hF h1 h2 h4 hx]
    rw [if_neg (by simp), if_neg]
    rintro ⟨g1, g2⟩
    obtain ⟨y, hy⟩ : ∃ y, (tasksT l s F.A s.length)[j - 1]? = some y := ⟨_, List.getElem?_eq_getElem (by have := (List.getElem?_eq_some_iff.1 ht).1; omega)⟩
    have hp := List.pairwise_iff_getElem.1 (tasksT_asc (A := F.A) hl.asc hs.asc (Nat.le_refl _)) (j - 1) j (List.getElem?_eq_some_iff.1 hy).1 (List.getElem?_eq_some_iff.1 ht).1 (by omega)
    rw [(List.getElem?_eq_some_iff.1 hy).2, (List.getElem?_eq_some_iff.1 ht).2] at hp
    rw [List.getD_eq_getElem?_getD, hy] at g2
    have := cmpT_lt hp
    simp only [Option.getD_some] at g2
    omega
theorem firstE_zero {f : Nat → Int} (h : ∀ j, f j = 0) : ∀ n, firstE f n = 0
  | 0 => rfl
  | n + 1 => by rw [firstE, if_pos (firstE_zero h n), h]
theorem alloc_len {q a : Nat} {F : Flw} (hU : Upto (elF l s) (limF (capF l) a) s.length l.length q s.length F) : (tasksT l s F.A s.length).length = s.length * q := by
  rw [tasksT_sum]; exact sumN_const fun i hi => by rw [hU.row i hi, if_pos hi]
theorem alloc_load {q a : Nat} {F : Flw} (hl : MksOk l) (hU : Upto (elF l s) (limF (capF l) a) s.length l.length q s.length F) {m : Nat} {k : Mrk} (hk : l[m]? = some k) : loadF (tasksT l s F.A s.length) k.id = colN s.length F.A m ∧ colN s.length F.A m ≤ a ∧ (colN s.length F.A m : Int) ≤ k.cap := by
  have hm := (List.getElem?_eq_some_iff.1 hk).1
  have h1 := hU.wf.lim m hm
  rw [← hU.wf.col m hm] at h1
  simp only [limF, capF_at hk] at h1
  have hc := (hl.all m k hk).cap
  refine ⟨?_, by omega, by omega⟩
  rw [← idF_at hk]; exact tasksT_load hl.asc hm
theorem alloc_check {q a : Nat} {F : Flw} (hl : MksOk l) (hs : ScsOk s) (hq1 : 1 ≤ q) (hq2 : q ≤ 2) (hU : Upto (elF l s) (limF (capF l) a) s.length l.length q s.length F) : checkV l s q (tasksT l s F.A s.length) = 0 := by
  have h60 := hs.len
  have hlen := alloc_len hU
  have h120 : s.length * q ≤ 60 * 2 := Nat.mul_le_mul h60 hq2
  rw [checkV, if_neg (by simp [okK]; omega), if_neg (by omega), if_neg (by rw [firstE_zero (alloc_err hl hs hU.wf)]; simp), if_neg, if_neg]
  · unfold overB
    rw [Bool.not_eq_true, List.any_eq_false]
    intro k hk
    obtain ⟨m, hm⟩ := List.getElem?_of_mem hk
    have := alloc_load hl hU hm
    simp only [decide_eq_true_eq]; omega
  · unfold shareB anyK
    rw [Bool.not_eq_true, List.any_eq_false]
    intro x hx
    simp only [List.mem_map, List.mem_range] at hx
    obtain ⟨p, hp, rfl⟩ := hx
    unfold cntS
    rw [List.take_length, tasksT_mark hs.asc hp (Nat.le_refl _), if_pos hp, hU.row p hp, if_pos hp]
    simp
end
end Go.Proofs.Ytkbkdlkfpmcmdaa
