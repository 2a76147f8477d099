/- Several texts in one: Pl11, GL26k, GL26q, GL26m, GL25h, GL25i, GL26n. -/
import Derived.Test.YtpmoflggmdfmnaaMB
import Derived.Lib.SlicesCompact
import Derived.Test.YtpmoflggmdfmnaaS5
import Derived.Test.YtpmoflggmdfmnaaS2
/- Layer 11, plainly: sorting and compacting; maps as lists. -/
section
namespace Go.Proofs.Ytpmoflggmdfmnaa
set_option linter.unusedVariables false
set_option linter.unusedSimpArgs false
set_option linter.unnecessarySimpa false
set_option linter.unusedSectionVars false
open Go.RowKit
theorem comp_sorted {d : Array Int} (hs : ∀ i j, i ≤ j → j < d.size → d[i]! ≤ d[j]!) : ∀ m, m ≤ d.size → (Lib.compactUpTo d m).Pairwise (· < ·) ∧ (∀ x ∈ Lib.compactUpTo d m, 0 < m ∧ x ≤ d[m - 1]!) ∧ ∀ x, x ∈ Lib.compactUpTo d m ↔ ∃ j, j < m ∧ d[j]! = x
  | 0, _ => by simp [Lib.compactUpTo]
  | m + 1, h => by
    obtain ⟨h1, h2, h3⟩ := comp_sorted hs m (by omega)
    have hm : d[m - 1]! ≤ d[m]! := hs _ _ (by omega) (by omega)
    rw [Lib.compactUpTo_succ]
    by_cases hk : Lib.keeps d m = true
    · rw [if_pos hk]
      refine ⟨?_, ?_, ?_⟩
      · rw [List.pairwise_append]
        refine ⟨h1, List.pairwise_singleton .., fun x hx y hy => ?_⟩
        rw [List.mem_singleton] at hy
        subst hy
        obtain ⟨hp, hle⟩ := h2 x hx
        have : d[m]! ≠ d[m - 1]! := by
          unfold Lib.keeps at hk
          rw [decide_eq_true_iff] at hk
          exact hk.resolve_left (by omega)
        omega
      · intro x hx
        rw [List.mem_append, List.mem_singleton] at hx
        refine ⟨by omega, ?_⟩
        show x ≤ d[m]!
        rcases hx with hx | rfl
        · have := (h2 x hx).2; omega
        · exact Int.le_refl _
      · intro x
        rw [List.mem_append, List.mem_singleton, h3]
        constructor
        · rintro (⟨j, hj, e⟩ | rfl)
          · exact ⟨j, by omega, e⟩
          · exact ⟨m, by omega, rfl⟩
        · rintro ⟨j, hj, e⟩
          rcases Nat.lt_or_ge j m with h' | h'
          · exact .inl ⟨j, h', e⟩
          · obtain rfl : j = m := by omega
            exact .inr e.symm
    · rw [if_neg hk, List.append_nil]
      unfold Lib.keeps at hk
      rw [decide_eq_true_iff] at hk
      have h0 : m ≠ 0 := fun e => hk (.inl e)
      have e1 : d[m]! = d[m - 1]! := Classical.byContradiction fun e => hk (.inr e)
      refine ⟨h1, fun x hx => ⟨by omega, ?_⟩, fun x => ?_⟩
      · show x ≤ d[m]!
        have := (h2 x hx).2; omega
      · rw [h3]
        constructor
        · rintro ⟨j, hj, e⟩; exact ⟨j, by omega, e⟩
        · rintro ⟨j, hj, e⟩
          rcases Nat.lt_or_ge j m with h' | h'
          · exact ⟨j, h', e⟩
          · obtain rfl : j = m := by omega
            exact ⟨j - 1, by omega, by rw [← e1]; exact e⟩
theorem comp_sort (xs : List Int) : (Lib.compact (xs.mergeSort fun x y => decide (x ≤ y))).Pairwise (· < ·) ∧ ∀ x, x ∈ Lib.compact (xs.mergeSort fun x y => decide (x ≤ y)) ↔ x ∈ xs := by
  have hp := List.pairwise_mergeSort (le := fun x y : Int => decide (x ≤ y)) (fun a b c h1 h2 => by simp at *; omega) (fun a b => by simp; omega) xs
  have hm : ∀ x, x ∈ xs.mergeSort (fun x y => decide (x ≤ y)) ↔ x ∈ xs := fun x => List.mem_mergeSort
  generalize xs.mergeSort (fun x y => decide (x ≤ y)) = zs at hp hm ⊢
  have get : ∀ i, i < zs.length → zs.toArray[i]! = zs[i]! := fun i hi => by simp
  obtain ⟨h1, -, h3⟩ := comp_sorted (d := zs.toArray) (fun i j hij hj => by
    have hj' : j < zs.length := by simpa using hj
    rcases Nat.lt_or_ge i j with h | h
    · have := List.pairwise_iff_getElem.1 hp i j (by omega) hj' h
      simp only [List.getElem!_toArray]
      rw [getElem!_pos zs i (by omega), getElem!_pos zs j hj']
      simpa using this
    · obtain rfl : i = j := by omega
      exact Int.le_refl _) zs.length (by simp)
  refine ⟨h1, fun x => ?_⟩
  rw [← hm]
  show x ∈ Lib.compactUpTo zs.toArray zs.length ↔ _
  rw [h3, List.mem_iff_getElem]
  constructor
  · rintro ⟨j, hj, e⟩
    exact ⟨j, hj, by rw [← e]; simp only [List.getElem!_toArray]; rw [getElem!_pos zs j hj]⟩
  · rintro ⟨j, hj, e⟩
    exact ⟨j, hj, by rw [← e]; simp only [List.getElem!_toArray]; rw [getElem!_pos zs j hj]⟩
section
variable {α : Type}
end
end Go.Proofs.Ytpmoflggmdfmnaa
end

/- Layer 26, plainly: the queue is the scripts in order that are own or common and may be marked. -/
section
namespace Go.Proofs.Ytpmoflggmdfmnaa
set_option linter.unusedVariables false
set_option linter.unusedSimpArgs false
set_option linter.unnecessarySimpa false
set_option linter.unusedSectionVars false
set_option maxRecDepth 10000
open Go.RowKit
theorem idxs_mem {n : Nat} {k x : Int} : x ∈ idxsF n k ↔ 1 ≤ k ∧ 0 ≤ x ∧ x < n ∧ x % k = 0 := by
  unfold idxsF
  split
  · next h => simp; omega
  · next h =>
    have hk : 1 ≤ k := by omega
    unfold mulF
    rw [List.mem_map]
    constructor
    · rintro ⟨j, hj, rfl⟩
      have := (cntI_lt hk).1 (List.mem_range.1 hj)
      exact ⟨hk, Int.mul_nonneg (by omega) (by omega), this, by rw [Int.mul_emod_left]⟩
    · rintro ⟨-, h0, h1, h2⟩
      have e : x / k * k = x := by have := Int.ediv_mul_add_emod x k; omega
      have hd : 0 ≤ x / k := Int.ediv_nonneg h0 (by omega)
      refine ⟨(x / k).toNat, List.mem_range.2 ((cntI_lt hk).2 ?_), ?_⟩
      · rw [Int.toNat_of_nonneg hd, e]; exact h1
      · rw [Int.toNat_of_nonneg hd, e]
theorem idxs_asc {n : Nat} {k : Int} : (idxsF n k).Pairwise (· < ·) := by
  unfold idxsF
  split
  · exact List.Pairwise.nil
  · unfold mulF
    rw [List.pairwise_map]
    refine List.pairwise_lt_range.imp fun {a b} h => ?_
    exact Int.mul_lt_mul_of_pos_right (by omega) (by omega)
theorem comQ_asc {l : List Mrk} {s : List Scr} {id : Int} (hs : ScsOk s) {k : Int} : (comQ l s id (idxsF s.length k)).Pairwise (· < ·) := by
  unfold comQ
  rw [List.pairwise_map]
  refine (List.Pairwise.filter _ (List.Pairwise.and_mem.1 (idxs_asc (n := s.length) (k := k)))).imp fun {a b} h => ?_
  obtain ⟨h1, h2, h3⟩ := h
  have ha := idxs_mem.1 h1
  have hb := idxs_mem.1 h2
  exact numF_lt hs.asc (by omega) (by omega)
theorem rq_asc {l : List Mrk} {s : List Scr} {ts : List (Int × Int)} {k id : Int} (hs : ScsOk s) : (rqF l s ts k id s).Pairwise (· < ·) := by
  unfold rqF
  rw [List.pairwise_map]
  refine List.Pairwise.filter _ ?_
  rw [List.pairwise_iff_getElem]
  intro i j hi hj hij
  exact asc_lt hs.asc (List.getElem?_eq_getElem hi) (List.getElem?_eq_getElem hj) hij
theorem hasP_mem {l : List Int} {p : Int} : hasP l p = true ↔ p ∈ l := by
  unfold hasP; rw [List.any_eq_true]
  exact ⟨fun ⟨x, h1, h2⟩ => by rw [beq_iff_eq] at h2; rw [h2]; exact h1, fun h => ⟨p, h, by simp⟩⟩
theorem queue_eq {l : List Mrk} {s : List Scr} {ts : List (Int × Int)} {k id : Int} (hs : ScsOk s) : queueF l s ts k id = rqF l s ts k id s := by
  have hc := comp_sort (ownQ l s id ts)
  refine asc_eq (merge_asc hc.1 (comQ_asc hs)) (rq_asc hs) fun n => ?_
  unfold queueF
  rw [merge_mem, hc.2 n]
  have hfind : ∀ {p : Nat} {x : Scr}, s[p]? = some x → findS s x.number = some p := fun {p x} hx => by
    have := findS_num hs.asc (List.getElem?_eq_some_iff.1 hx).1
    rwa [numF_at hx] at this
  constructor
  · rintro (h | h)
    · unfold ownQ at h
      rw [List.mem_map] at h
      obtain ⟨t, ht, rfl⟩ := h
      rw [List.mem_filter] at ht
      obtain ⟨ht1, ht2⟩ := ht
      unfold ownB at ht2
      rw [Bool.and_eq_true, beq_iff_eq] at ht2
      obtain ⟨hid, ht2⟩ := ht2
      cases hf : findS s t.1 with
      | none => rw [hf] at ht2; cases ht2
      | some p =>
        obtain ⟨x, hx, hn⟩ := findS_at hf
        rw [hf] at ht2
        simp only [ownB.elM, hx] at ht2
        unfold rqF
        rw [List.mem_map]
        refine ⟨x, List.mem_filter.2 ⟨List.mem_of_getElem? hx, ?_⟩, hn⟩
        unfold mineB
        rw [ht2, Bool.and_true, Bool.or_eq_true]
        exact .inr (List.any_eq_true.2 ⟨t, ht1, by rw [hn, hid]; simp⟩)
    · unfold comQ at h
      rw [List.mem_map] at h
      obtain ⟨i, hi, rfl⟩ := h
      rw [List.mem_filter] at hi
      have hm := idxs_mem.1 hi.1
      obtain ⟨x, hx⟩ : ∃ x, s[i.toNat]? = some x := ⟨_, List.getElem?_eq_getElem (by omega)⟩
      have he := hi.2
      simp only [ownB.elM, hx] at he
      unfold rqF
      rw [List.mem_map]
      refine ⟨x, List.mem_filter.2 ⟨List.mem_of_getElem? hx, ?_⟩, (numF_at hx).symm⟩
      unfold mineB
      rw [he, Bool.and_true, Bool.or_eq_true]
      refine .inl (hasP_mem.2 ?_)
      unfold commF
      exact List.mem_map.2 ⟨i, hi.1, numF_at hx⟩
  · intro h
    unfold rqF at h
    rw [List.mem_map] at h
    obtain ⟨x, hx, rfl⟩ := h
    rw [List.mem_filter] at hx
    obtain ⟨hx1, hx2⟩ := hx
    obtain ⟨p, hp⟩ := List.getElem?_of_mem hx1
    unfold mineB at hx2
    rw [Bool.and_eq_true, Bool.or_eq_true] at hx2
    obtain ⟨hx2, he⟩ := hx2
    rcases hx2 with h | h
    · right
      have h := hasP_mem.1 h
      unfold commF at h
      rw [List.mem_map] at h
      obtain ⟨i, hi, hn⟩ := h
      have hm := idxs_mem.1 hi
      have e : findS s (numF s i.toNat) = some i.toNat := findS_num hs.asc (by omega)
      rw [hn, hfind hp] at e
      injection e with e
      unfold comQ
      rw [List.mem_map]
      refine ⟨i, List.mem_filter.2 ⟨hi, ?_⟩, hn⟩
      simp only [ownB.elM, ← e, hp]; exact he
    · left
      rw [List.any_eq_true] at h
      obtain ⟨t, ht, h⟩ := h
      rw [Bool.and_eq_true, beq_iff_eq, beq_iff_eq] at h
      unfold ownQ
      rw [List.mem_map]
      refine ⟨t, List.mem_filter.2 ⟨ht, ?_⟩, h.1⟩
      unfold ownB
      rw [h.1, hfind hp, h.2]
      simp only [beq_self_eq_true, Bool.true_and, ownB.elM, hp]; exact he
end Go.Proofs.Ytpmoflggmdfmnaa
end

/- Layer 26: the check of seeds: of the program. -/
section
namespace Go.Proofs.Ytpmoflggmdfmnaa
set_option linter.unusedVariables false
set_option linter.unusedSimpArgs false
set_option linter.unnecessarySimpa false
set_option linter.unusedSectionVars false
set_option maxRecDepth 10000
open Go.RowKit
def plGL26q_0 : Plan := (.take 0 (.take 1 (.take 2 (.take 3 (.take 4 (.take 5 (.take 6 (.take 7 (.take 8 (.take 9 (.take 10 (.take 11 (.take 12 .done)))))))))))))
def plGL26q_1 : Plan := (.take 0 (.take 1 (.take 2 (.take 3 (.take 4 (.take 5 (.take 6 (.take 7 (.take 9 (.take 10 (.alt 8 (.take 11 (.take 12 .done)) .stop)))))))))))
def plGL26q_2 : Plan := (.take 0 (.take 1 (.take 2 (.take 3 (.take 4 (.take 5 (.take 6 (.take 7 (.take 9 (.alt 8 (.alt 10 (.take 11 (.take 12 .done)) .stop) (.alt 10 (.alt 8 (.take 11 (.take 12 .done)) .stop) .stop)))))))))))
def plGL26q_3 : Plan := (.take 0 (.take 1 (.take 2 (.take 3 (.take 4 (.take 5 (.take 6 (.take 7 (.take 8 (.alt 9 (.take 10 (.take 11 .done)) .stop))))))))))
def plGL26q_4 : Plan := (.take 0 (.take 1 (.take 2 (.take 3 (.take 4 (.take 5 (.take 7 (.take 8 (.alt 6 (.alt 9 (.take 10 (.take 11 .done)) .stop) .stop)))))))))
def plGL26q_5 : Plan := (.take 0 (.take 1 (.take 2 (.take 3 (.take 4 (.take 5 (.take 7 (.alt 6 (.alt 8 (.alt 9 (.take 10 (.take 11 .done)) .stop) .stop) (.alt 8 (.alt 6 (.alt 9 (.take 10 (.take 11 .done)) .stop) .stop) .stop)))))))))
theorem fitsPap_ok (p : Pap) (x : Scr) : Good Try.prog TT false 79 [.agg (encPap p), .ref (encR x)] (· = .bool (papM x p)) := by
  refine good_of mixed tabOk Try.func79 rfl rfl Try.ntmps79 Try.results79 rfl rfl ?_
  (conv => whnf); (repeat' (first | (refine arith_i ⟨by omega, by omega⟩ ?_; conv => whnf) | (refine arith_u ⟨by omega, by omega⟩ ?_; conv => whnf) | (refine arith_8 ⟨by omega, by omega⟩ ?_; conv => whnf) | (refine need_i (by first | omega | (simp only [List.length_cons, List.length_nil]; omega) | (simp only [List.length_append, List.length_cons, List.length_nil, List.length_map, List.length_replicate, List.length_modify]; omega)) ?_; conv => whnf) | ((with_reducible refine branch_tt ?_); conv => whnf) | ((with_reducible refine branch_ff ?_); conv => whnf) | (with_reducible refine branch_not ?_) | ((with_reducible refine slc_e ?_); conv => whnf) | ((with_reducible refine callS_a ?_); conv => whnf) | ((with_reducible refine bld_a ?_); conv => whnf) | ((with_reducible refine own_e ?_); conv => whnf) | ((with_reducible refine mkmap_b ?_); conv => whnf) | ((with_reducible refine branch_d (fun hq => ?_) (fun hq => ?_)) <;> (try (exfalso; omega)) <;> (conv => whnf)) | ((with_reducible refine branch_e (fun hq => ?_) (fun hq => ?_)) <;> (try (exfalso; omega)) <;> (conv => whnf)) | ((with_reducible refine branch_n (fun hq => ?_) (fun hq => ?_)) <;> (try (exfalso; omega)) <;> (conv => whnf)) | ((with_reducible refine branch_i (fun hq => ?_) (fun hq => ?_)) <;> (try (exfalso; omega)) <;> (conv => whnf))))
  all_goals first
    | (refine ret_p rfl (bool_eq ?_); unfold papM; simp_all; done)

def idxPap (ps : List Pap) (x : Scr) : Option Nat := ps.findIdx? (papM x)
def idxV (o : Option Nat) : AV := match o with
  | some i => .int .i64 i
  | none => .int .i64 (-1)
theorem indexPap_ok (ps : List Pap) (x : Scr) (hl : ps.length ≤ 1000) : Good Try.prog TT false 78 [.lst 3 (ps.map encPap), .fn 79 [.ref (encR x)]] (· = idxV (idxPap ps x)) := by
  have L : (ps.map encPap).length = ps.length := List.length_map ..
  refine good_of mixed tabOk Try.func78 rfl rfl Try.ntmps78 Try.results78 rfl rfl ?_
  (conv => whnf); (repeat' (first | (refine arith_i ⟨by omega, by omega⟩ ?_; conv => whnf) | (refine arith_u ⟨by omega, by omega⟩ ?_; conv => whnf) | (refine arith_8 ⟨by omega, by omega⟩ ?_; conv => whnf) | (refine need_i (by first | omega | (simp only [List.length_cons, List.length_nil]; omega) | (simp only [List.length_append, List.length_cons, List.length_nil, List.length_map, List.length_replicate, List.length_modify]; omega)) ?_; conv => whnf) | ((with_reducible refine branch_tt ?_); conv => whnf) | ((with_reducible refine branch_ff ?_); conv => whnf) | (with_reducible refine branch_not ?_) | ((with_reducible refine slc_e ?_); conv => whnf) | ((with_reducible refine callS_a ?_); conv => whnf) | ((with_reducible refine bld_a ?_); conv => whnf) | ((with_reducible refine own_e ?_); conv => whnf) | ((with_reducible refine mkmap_b ?_); conv => whnf) | ((with_reducible refine branch_d (fun hq => ?_) (fun hq => ?_)) <;> (try (exfalso; omega)) <;> (conv => whnf)) | ((with_reducible refine branch_e (fun hq => ?_) (fun hq => ?_)) <;> (try (exfalso; omega)) <;> (conv => whnf)) | ((with_reducible refine branch_n (fun hq => ?_) (fun hq => ?_)) <;> (try (exfalso; omega)) <;> (conv => whnf)) | ((with_reducible refine branch_i (fun hq => ?_) (fun hq => ?_)) <;> (try (exfalso; omega)) <;> (conv => whnf))))
  refine loop_i (fun i : Nat => i ≤ ps.length ∧ ∀ j p, j < i → ps[j]? = some p → papM x p = false) (fun i => mkSt [(0, .lst 3 (ps.map encPap)), (1, .fn 79 [.ref (encR x)]), (7, .int .i64 ps.length), (8, .int .i64 i)] [] false) (fun i => ps.length - i) 0 ⟨Nat.zero_le _, nofun⟩ (le_mk ⟨rfl, rfl, int_eq (by rw [L]), rfl, trivial⟩ trivial rfl) ?_
  rintro i ⟨hi, hno⟩
  rcases Nat.lt_or_ge i ps.length with hil | hil
  · obtain ⟨p, hp⟩ : ∃ p, ps[i]? = some p := ⟨_, List.getElem?_eq_getElem hil⟩
    have hstep : papM x p = false → ∀ j p', j < i + 1 → ps[j]? = some p' → papM x p' = false := fun h j p' hj hp' => by
      rcases Nat.lt_or_ge j i with g | g
      · exact hno j p' g hp'
      · obtain rfl : j = i := by omega
        rw [hp] at hp'; injection hp' with hp'; rw [← hp']; exact h
    (conv => whnf); (repeat' (first | (refine arith_i ⟨by omega, by omega⟩ ?_; conv => whnf) | (refine arith_u ⟨by omega, by omega⟩ ?_; conv => whnf) | (refine arith_8 ⟨by omega, by omega⟩ ?_; conv => whnf) | (refine need_i (by first | omega | (simp only [List.length_cons, List.length_nil]; omega) | (simp only [List.length_append, List.length_cons, List.length_nil, List.length_map, List.length_replicate, List.length_modify]; omega)) ?_; conv => whnf) | ((with_reducible refine branch_tt ?_); conv => whnf) | ((with_reducible refine branch_ff ?_); conv => whnf) | (with_reducible refine branch_not ?_) | ((refine idx_cs hp ?_); conv => whnf) | ((refine call_e (fitsPap_ok p x) ?_); conv => whnf) | ((with_reducible refine slc_e ?_); conv => whnf) | ((with_reducible refine callS_a ?_); conv => whnf) | ((with_reducible refine bld_a ?_); conv => whnf) | ((with_reducible refine own_e ?_); conv => whnf) | ((with_reducible refine mkmap_b ?_); conv => whnf) | ((with_reducible refine branch_d (fun hq => ?_) (fun hq => ?_)) <;> (try (exfalso; omega)) <;> (conv => whnf)) | ((with_reducible refine branch_e (fun hq => ?_) (fun hq => ?_)) <;> (try (exfalso; omega)) <;> (conv => whnf)) | ((with_reducible refine branch_n (fun hq => ?_) (fun hq => ?_)) <;> (try (exfalso; omega)) <;> (conv => whnf)) | ((with_reducible refine branch_i (fun hq => ?_) (fun hq => ?_)) <;> (try (exfalso; omega)) <;> (conv => whnf))))
    all_goals first
      | (have hf : idxPap ps x = some i := by
           unfold idxPap
           rw [List.findIdx?_eq_some_iff_getElem]
           refine ⟨hil, by rw [(List.getElem?_eq_some_iff.1 hp).2]; exact hq, fun j hj => ?_⟩
           rw [hno j _ hj (List.getElem?_eq_getElem (by omega))]; simp
         rw [hf]
         exact ret_p rfl rfl)
      | exact ⟨i + 1, ⟨by omega, hstep hq⟩, (le_mk (by repeat' (first | exact trivial | rfl | apply And.intro)) (by repeat' (first | exact trivial | rfl | apply And.intro)) rfl), by omega⟩
  · (conv => whnf); (repeat' (first | (refine arith_i ⟨by omega, by omega⟩ ?_; conv => whnf) | (refine arith_u ⟨by omega, by omega⟩ ?_; conv => whnf) | (refine arith_8 ⟨by omega, by omega⟩ ?_; conv => whnf) | (refine need_i (by first | omega | (simp only [List.length_cons, List.length_nil]; omega) | (simp only [List.length_append, List.length_cons, List.length_nil, List.length_map, List.length_replicate, List.length_modify]; omega)) ?_; conv => whnf) | ((with_reducible refine branch_tt ?_); conv => whnf) | ((with_reducible refine branch_ff ?_); conv => whnf) | (with_reducible refine branch_not ?_) | ((with_reducible refine slc_e ?_); conv => whnf) | ((with_reducible refine callS_a ?_); conv => whnf) | ((with_reducible refine bld_a ?_); conv => whnf) | ((with_reducible refine own_e ?_); conv => whnf) | ((with_reducible refine mkmap_b ?_); conv => whnf) | ((with_reducible refine branch_d (fun hq => ?_) (fun hq => ?_)) <;> (try (exfalso; omega)) <;> (conv => whnf)) | ((with_reducible refine branch_e (fun hq => ?_) (fun hq => ?_)) <;> (try (exfalso; omega)) <;> (conv => whnf)) | ((with_reducible refine branch_n (fun hq => ?_) (fun hq => ?_)) <;> (try (exfalso; omega)) <;> (conv => whnf)) | ((with_reducible refine branch_i (fun hq => ?_) (fun hq => ?_)) <;> (try (exfalso; omega)) <;> (conv => whnf))))
    have hf : idxPap ps x = none := by
      unfold idxPap
      rw [List.findIdx?_eq_none_iff]
      intro p hp
      obtain ⟨j, hj⟩ := List.getElem?_of_mem hp
      exact hno j p (by have := (List.getElem?_eq_some_iff.1 hj).1; omega) hj
    rw [hf]
    exact ret_p rfl rfl
def mvB (q : Pap) (ms : List Int) : Bool := decide (ms.length = q.parts.length) && vmB q.parts ms q.parts.length
def prevS (sds : List Sed) (i : Nat) : Int := match sds[i - 1]? with | some y => y.script | none => 0
def seedE (s : List Scr) (ps : List Pap) (k : Int) (sds : List Sed) (i : Nat) : Int := match sds[i]? with
  | none => 0
  | some y => if hasP (commF s k) y.script = false then 4 else if 0 < i ∧ y.script ≤ prevS sds i then 43 else match papF ps (scrN s y.script) with
    | none => 1
    | some q => if mvB q y.marks = true then 0 else 1
def chkE (s : List Scr) (ps : List Pap) (k : Int) (sds : List Sed) : Nat → Int
  | 0 => 0
  | i + 1 => if chkE s ps k sds i = 0 then seedE s ps k sds i else chkE s ps k sds i
def check26V (s : List Scr) (ps : List Pap) (k : Int) (sds : List Sed) : Int := if k < 1 then 2 else if 12 < sds.length then 3 else chkE s ps k sds sds.length
theorem chkE_bad {s : List Scr} {ps : List Pap} {k : Int} {sds : List Sed} {i j : Nat} (hij : i ≤ j) (h : chkE s ps k sds i ≠ 0) : chkE s ps k sds j = chkE s ps k sds i := by
  induction hij with
  | refl => rfl
  | step _ ih => rw [chkE, ih, if_neg h]
theorem papF_idx {ps : List Pap} {x : Scr} : papF ps x = (idxPap ps x).bind fun j => ps[j]? := by
  unfold papF idxPap
  cases h : ps.findIdx? (papM x) with
  | none =>
    rw [List.findIdx?_eq_none_iff] at h
    rw [Option.bind_none, List.find?_eq_none]
    intro p hp
    rw [h p hp]; simp
  | some i =>
    rw [List.findIdx?_eq_some_iff_getElem] at h
    obtain ⟨h1, h2, h3⟩ := h
    rw [Option.bind_some, List.getElem?_eq_getElem h1, List.find?_eq_some_iff_getElem]
    exact ⟨h2, i, h1, rfl, fun j hj => by have := h3 j hj; simpa using this⟩
theorem comm_find {s : List Scr} (hs : ScsOk s) {k n : Int} (h : hasP (commF s k) n = true) : ∃ p x, findS s n = some p ∧ s[p]? = some x ∧ x.number = n ∧ scrN s n = x := by
  have h := hasP_mem.1 h
  unfold commF at h
  rw [List.mem_map] at h
  obtain ⟨i, hi, hn⟩ := h
  have hm := idxs_mem.1 hi
  have e : findS s (numF s i.toNat) = some i.toNat := findS_num hs.asc (by omega)
  rw [hn] at e
  obtain ⟨x, hx⟩ : ∃ x, s[i.toNat]? = some x := ⟨_, List.getElem?_eq_getElem (by omega)⟩
  refine ⟨i.toNat, x, e, hx, by rw [numF_at hx] at hn; exact hn, ?_⟩
  unfold scrN
  rw [e]; simp only [hx, Option.getD_some]
theorem chk_next {s : List Scr} {ps : List Pap} {k : Int} {sds : List Sed} {i : Nat} (h : chkE s ps k sds i = 0) : chkE s ps k sds (i + 1) = seedE s ps k sds i := by rw [chkE, if_pos h]
set_option maxHeartbeats 4000000 in
theorem sCheck_ok (s : List Scr) (ps : List Pap) (k : Int) (sds : List Sed) (hs : ScsOk s) (hps : ps.length ≤ 1000) (hpo : ∀ (k : Nat) (p : Pap), ps[k]? = some p → p.parts.length ≤ 1000) (hsl : sds.length ≤ 1000) (hsm : ∀ (k : Nat) (y : Sed), sds[k]? = some y → y.marks.length ≤ 1000000) (hk64 : k ≤ 9223372036854775807) : Good Try.prog TT false 43 [scrsV s, .lst 3 (ps.map encPap), .int .i64 k, sedsV sds] (· = .int .i64 (check26V s ps k sds)) := by
  have LS : (s.map encR).length = s.length := List.length_map ..
  have LP : (ps.map encPap).length = ps.length := List.length_map ..
  have LD : (sds.map encSd).length = sds.length := List.length_map ..
  have hC := checkScripts_ok s s.length hs.len (Nat.le_refl _) (fun k x h => (hs.all k x h).1) (fun k x _ h => (hs.all k x h).2) (fun x h => by rw [List.getElem?_eq_none (Nat.le_refl _)] at h; cases h) hs.asc
  rw [if_pos rfl] at hC
  refine good_of mixed tabOk Try.func43 rfl rfl Try.ntmps43 Try.results43 rfl rfl ?_
  (conv => whnf); (repeat' (first | (refine arith_i ⟨by omega, by omega⟩ ?_; conv => whnf) | (refine arith_u ⟨by omega, by omega⟩ ?_; conv => whnf) | (refine arith_8 ⟨by omega, by omega⟩ ?_; conv => whnf) | (refine need_i (by first | omega | (simp only [List.length_cons, List.length_nil]; omega) | (simp only [List.length_append, List.length_cons, List.length_nil, List.length_map, List.length_replicate, List.length_modify]; omega)) ?_; conv => whnf) | ((with_reducible refine branch_tt ?_); conv => whnf) | ((with_reducible refine branch_ff ?_); conv => whnf) | (with_reducible refine branch_not ?_) | ((refine call_e hC ?_); conv => whnf) | ((refine call_e (common_ok s k hs hk64) ?_); conv => whnf) | ((with_reducible refine slc_e ?_); conv => whnf) | ((with_reducible refine callS_a ?_); conv => whnf) | ((with_reducible refine bld_a ?_); conv => whnf) | ((with_reducible refine own_e ?_); conv => whnf) | ((with_reducible refine mkmap_b ?_); conv => whnf) | (refine draw_i 13 plGL26q_0 (by decide +kernel) ?_; (conv => whnf); fail_if_success (guard_target =~ False)) | (refine draw_i 13 plGL26q_1 (by decide +kernel) ?_; (conv => whnf); fail_if_success (guard_target =~ False)) | (refine draw_i 13 plGL26q_2 (by decide +kernel) ?_; (conv => whnf); fail_if_success (guard_target =~ False)) | (refine draw_i 12 plGL26q_3 (by decide +kernel) ?_; (conv => whnf); fail_if_success (guard_target =~ False)) | (refine draw_i 12 plGL26q_4 (by decide +kernel) ?_; (conv => whnf); fail_if_success (guard_target =~ False)) | (refine draw_i 12 plGL26q_5 (by decide +kernel) ?_; (conv => whnf); fail_if_success (guard_target =~ False)) | ((with_reducible refine And.intro ?_ ?_) <;> (conv => whnf)) | (with_reducible exact trivial) | ((with_reducible refine branch_d (fun hq => ?_) (fun hq => ?_)) <;> (try (exfalso; omega)) <;> (conv => whnf)) | ((with_reducible refine branch_e (fun hq => ?_) (fun hq => ?_)) <;> (try (exfalso; omega)) <;> (conv => whnf)) | ((with_reducible refine branch_n (fun hq => ?_) (fun hq => ?_)) <;> (try (exfalso; omega)) <;> (conv => whnf)) | ((with_reducible refine branch_i (fun hq => ?_) (fun hq => ?_)) <;> (try (exfalso; omega)) <;> (conv => whnf))))
  · exact ret_p rfl (int_eq (by unfold check26V; rw [if_pos hq]))
  · exact ret_p rfl (int_eq (by unfold check26V; rw [if_neg (by assumption), if_pos (by omega)]))
  have hV : check26V s ps k sds = chkE s ps k sds sds.length := by unfold check26V; rw [if_neg (by assumption), if_neg (by omega)]
  rw [hV]
  refine loop_i (fun i : Nat => i ≤ sds.length ∧ chkE s ps k sds i = 0) (fun i => mkSt [(0, scrsV s), (1, .lst 3 (ps.map encPap)), (3, sedsV sds), (10, ints (commF s k)), (29, sedsV sds), (30, .int .i64 sds.length), (31, .int .i64 i)] [] false) (fun i => sds.length - i) 0 ⟨Nat.zero_le _, rfl⟩ (Le.trans (le_erase 28) (le_mk ⟨rfl, rfl, rfl, rfl, rfl, int_eq (by rw [LD]), rfl, trivial⟩ trivial rfl)) ?_
  rintro i ⟨hi, hz⟩
  have hcl := commF_len (s := s) (k := k)
  have h60 := hs.len
  rcases Nat.lt_or_ge i sds.length with hil | hil
  · obtain ⟨y, hy⟩ : ∃ y, sds[i]? = some y := ⟨_, List.getElem?_eq_getElem hil⟩
    have hnx := chk_next hz
    have hbad : ∀ e : Int, seedE s ps k sds i = e → e ≠ 0 → AV.int .i64 e = .int .i64 (chkE s ps k sds sds.length) := fun e he h0 => int_eq (by rw [chkE_bad (i := i + 1) (by omega) (by rw [hnx, he]; exact h0), hnx, he])
    have hsd : seedE s ps k sds i = if hasP (commF s k) y.script = false then 4 else if 0 < i ∧ y.script ≤ prevS sds i then 43 else match papF ps (scrN s y.script) with
      | none => 1
      | some q => if mvB q y.marks = true then 0 else 1 := by unfold seedE; rw [hy]
    have hCT := contains_ok (commF s k) y.script (by omega)
    cases hc : hasP (commF s k) y.script with
    | false =>
      rw [hc, if_pos rfl] at hsd
      rw [hc] at hCT
      cases hf : findS s y.script with
      | none =>
        (conv => whnf); (repeat' (first | (refine arith_i ⟨by omega, by omega⟩ ?_; conv => whnf) | (refine arith_u ⟨by omega, by omega⟩ ?_; conv => whnf) | (refine arith_8 ⟨by omega, by omega⟩ ?_; conv => whnf) | (refine need_i (by first | omega | (simp only [List.length_cons, List.length_nil]; omega) | (simp only [List.length_append, List.length_cons, List.length_nil, List.length_map, List.length_replicate, List.length_modify]; omega)) ?_; conv => whnf) | ((with_reducible refine branch_tt ?_); conv => whnf) | ((with_reducible refine branch_ff ?_); conv => whnf) | (with_reducible refine branch_not ?_) | ((refine idx_cs hy ?_); conv => whnf) | (((refine call_e ((sFind_ok s y.script hs).mono fun r h => (by unfold ScriptR at h; rw [hf] at h; exact h : r = .tup [scr0R, .bool false])) ?_)); conv => whnf) | ((with_reducible refine slc_e ?_); conv => whnf) | ((with_reducible refine callS_a ?_); conv => whnf) | ((with_reducible refine bld_a ?_); conv => whnf) | ((with_reducible refine own_e ?_); conv => whnf) | ((with_reducible refine mkmap_b ?_); conv => whnf) | (refine draw_i 13 plGL26q_0 (by decide +kernel) ?_; (conv => whnf); fail_if_success (guard_target =~ False)) | (refine draw_i 13 plGL26q_1 (by decide +kernel) ?_; (conv => whnf); fail_if_success (guard_target =~ False)) | (refine draw_i 13 plGL26q_2 (by decide +kernel) ?_; (conv => whnf); fail_if_success (guard_target =~ False)) | (refine draw_i 12 plGL26q_3 (by decide +kernel) ?_; (conv => whnf); fail_if_success (guard_target =~ False)) | (refine draw_i 12 plGL26q_4 (by decide +kernel) ?_; (conv => whnf); fail_if_success (guard_target =~ False)) | (refine draw_i 12 plGL26q_5 (by decide +kernel) ?_; (conv => whnf); fail_if_success (guard_target =~ False)) | ((with_reducible refine And.intro ?_ ?_) <;> (conv => whnf)) | (with_reducible exact trivial) | ((with_reducible refine branch_d (fun hq => ?_) (fun hq => ?_)) <;> (try (exfalso; omega)) <;> (conv => whnf)) | ((with_reducible refine branch_e (fun hq => ?_) (fun hq => ?_)) <;> (try (exfalso; omega)) <;> (conv => whnf)) | ((with_reducible refine branch_n (fun hq => ?_) (fun hq => ?_)) <;> (try (exfalso; omega)) <;> (conv => whnf)) | ((with_reducible refine branch_i (fun hq => ?_) (fun hq => ?_)) <;> (try (exfalso; omega)) <;> (conv => whnf))))
        all_goals first | exact ret_p rfl (hbad 4 hsd (by decide))
      | some p =>
        obtain ⟨x, hx, hn⟩ := findS_at hf
        have hScr : Good Try.prog TT false 72 [scrsV s, .int .i64 y.script] (· = .tup [.agg (encR x), .bool true]) := (sFind_ok s y.script hs).mono fun r h => by
          unfold ScriptR at h; rw [hf] at h; obtain ⟨x', hx', h⟩ := h; rw [hx] at hx'; injection hx' with hx'; rw [hx']; exact h
        (conv => whnf); (repeat' (first | (refine arith_i ⟨by omega, by omega⟩ ?_; conv => whnf) | (refine arith_u ⟨by omega, by omega⟩ ?_; conv => whnf) | (refine arith_8 ⟨by omega, by omega⟩ ?_; conv => whnf) | (refine need_i (by first | omega | (simp only [List.length_cons, List.length_nil]; omega) | (simp only [List.length_append, List.length_cons, List.length_nil, List.length_map, List.length_replicate, List.length_modify]; omega)) ?_; conv => whnf) | ((with_reducible refine branch_tt ?_); conv => whnf) | ((with_reducible refine branch_ff ?_); conv => whnf) | (with_reducible refine branch_not ?_) | ((refine idx_cs hy ?_); conv => whnf) | ((refine call_e hScr ?_); conv => whnf) | ((refine call_e hCT ?_); conv => whnf) | ((with_reducible refine slc_e ?_); conv => whnf) | ((with_reducible refine callS_a ?_); conv => whnf) | ((with_reducible refine bld_a ?_); conv => whnf) | ((with_reducible refine own_e ?_); conv => whnf) | ((with_reducible refine mkmap_b ?_); conv => whnf) | (refine draw_i 13 plGL26q_0 (by decide +kernel) ?_; (conv => whnf); fail_if_success (guard_target =~ False)) | (refine draw_i 13 plGL26q_1 (by decide +kernel) ?_; (conv => whnf); fail_if_success (guard_target =~ False)) | (refine draw_i 13 plGL26q_2 (by decide +kernel) ?_; (conv => whnf); fail_if_success (guard_target =~ False)) | (refine draw_i 12 plGL26q_3 (by decide +kernel) ?_; (conv => whnf); fail_if_success (guard_target =~ False)) | (refine draw_i 12 plGL26q_4 (by decide +kernel) ?_; (conv => whnf); fail_if_success (guard_target =~ False)) | (refine draw_i 12 plGL26q_5 (by decide +kernel) ?_; (conv => whnf); fail_if_success (guard_target =~ False)) | ((with_reducible refine And.intro ?_ ?_) <;> (conv => whnf)) | (with_reducible exact trivial) | ((with_reducible refine branch_d (fun hq => ?_) (fun hq => ?_)) <;> (try (exfalso; omega)) <;> (conv => whnf)) | ((with_reducible refine branch_e (fun hq => ?_) (fun hq => ?_)) <;> (try (exfalso; omega)) <;> (conv => whnf)) | ((with_reducible refine branch_n (fun hq => ?_) (fun hq => ?_)) <;> (try (exfalso; omega)) <;> (conv => whnf)) | ((with_reducible refine branch_i (fun hq => ?_) (fun hq => ?_)) <;> (try (exfalso; omega)) <;> (conv => whnf))))
        all_goals first | exact ret_p rfl (hbad 4 hsd (by decide))
    | true =>
      rw [hc, if_neg (by simp)] at hsd
      rw [hc] at hCT
      obtain ⟨p, x, hf, hx, hn, hsn⟩ := comm_find hs hc
      rw [hsn, papF_idx] at hsd
      have hScr : Good Try.prog TT false 72 [scrsV s, .int .i64 y.script] (· = .tup [.agg (encR x), .bool true]) := (sFind_ok s y.script hs).mono fun r h => by
        unfold ScriptR at h; rw [hf] at h; obtain ⟨x', hx', h⟩ := h; rw [hx] at hx'; injection hx' with hx'; rw [hx']; exact h
      have hIP := indexPap_ok ps x hps
      have hym := hsm i y hy
      have hend : (¬ (0 < i ∧ y.script ≤ prevS sds i)) → (idxPap ps x = none → AV.int .i64 1 = .int .i64 (chkE s ps k sds sds.length)) ∧ ∀ j q, idxPap ps x = some j → ps[j]? = some q → (mvB q y.marks = false → AV.int .i64 1 = .int .i64 (chkE s ps k sds sds.length)) ∧ (mvB q y.marks = true → chkE s ps k sds (i + 1) = 0) := fun ho => by
        rw [if_neg ho] at hsd
        refine ⟨fun h => ?_, fun j q hj hq => ⟨fun h => ?_, fun h => ?_⟩⟩
        · rw [h] at hsd; exact hbad 1 hsd (by decide)
        · rw [hj, Option.bind_some, hq] at hsd; simp only [h] at hsd; exact hbad 1 hsd (by decide)
        · rw [hj, Option.bind_some, hq] at hsd; simp only [h, if_true] at hsd; rw [hnx, hsd]
      have hpat : ∀ j, idxPap ps x = some j → ∃ q, ps[j]? = some q := fun j h => by
        unfold idxPap at h
        rw [List.findIdx?_eq_some_iff_getElem] at h
        exact ⟨_, List.getElem?_eq_getElem h.1⟩
      by_cases ho : 0 < i ∧ y.script ≤ prevS sds i
      · rw [if_pos ho] at hsd
        obtain ⟨z, hzp⟩ : ∃ z, sds[i - 1]? = some z := ⟨_, List.getElem?_eq_getElem (by omega)⟩
        have hpv : prevS sds i = z.script := by unfold prevS; rw [hzp]
        rw [hpv] at ho
        (conv => whnf); (repeat' (first | (refine arith_i ⟨by omega, by omega⟩ ?_; conv => whnf) | (refine arith_u ⟨by omega, by omega⟩ ?_; conv => whnf) | (refine arith_8 ⟨by omega, by omega⟩ ?_; conv => whnf) | (refine need_i (by first | omega | (simp only [List.length_cons, List.length_nil]; omega) | (simp only [List.length_append, List.length_cons, List.length_nil, List.length_map, List.length_replicate, List.length_modify]; omega)) ?_; conv => whnf) | ((with_reducible refine branch_tt ?_); conv => whnf) | ((with_reducible refine branch_ff ?_); conv => whnf) | (with_reducible refine branch_not ?_) | ((refine idx_cs hy ?_); conv => whnf) | ((refine idx_ms (by omega) (by rw [show ((i : Int) - 1).toNat = i - 1 by omega]; exact hzp) ?_); conv => whnf) | ((refine call_e hScr ?_); conv => whnf) | ((refine call_e hCT ?_); conv => whnf) | ((with_reducible refine slc_e ?_); conv => whnf) | ((with_reducible refine callS_a ?_); conv => whnf) | ((with_reducible refine bld_a ?_); conv => whnf) | ((with_reducible refine own_e ?_); conv => whnf) | ((with_reducible refine mkmap_b ?_); conv => whnf) | (refine draw_i 13 plGL26q_0 (by decide +kernel) ?_; (conv => whnf); fail_if_success (guard_target =~ False)) | (refine draw_i 13 plGL26q_1 (by decide +kernel) ?_; (conv => whnf); fail_if_success (guard_target =~ False)) | (refine draw_i 13 plGL26q_2 (by decide +kernel) ?_; (conv => whnf); fail_if_success (guard_target =~ False)) | (refine draw_i 12 plGL26q_3 (by decide +kernel) ?_; (conv => whnf); fail_if_success (guard_target =~ False)) | (refine draw_i 12 plGL26q_4 (by decide +kernel) ?_; (conv => whnf); fail_if_success (guard_target =~ False)) | (refine draw_i 12 plGL26q_5 (by decide +kernel) ?_; (conv => whnf); fail_if_success (guard_target =~ False)) | ((with_reducible refine And.intro ?_ ?_) <;> (conv => whnf)) | (with_reducible exact trivial) | ((with_reducible refine branch_d (fun hq => ?_) (fun hq => ?_)) <;> (try (exfalso; omega)) <;> (conv => whnf)) | ((with_reducible refine branch_e (fun hq => ?_) (fun hq => ?_)) <;> (try (exfalso; omega)) <;> (conv => whnf)) | ((with_reducible refine branch_n (fun hq => ?_) (fun hq => ?_)) <;> (try (exfalso; omega)) <;> (conv => whnf)) | ((with_reducible refine branch_i (fun hq => ?_) (fun hq => ?_)) <;> (try (exfalso; omega)) <;> (conv => whnf))))
        all_goals exact ret_p rfl (hbad 43 hsd (by decide))
      · obtain ⟨hE1, hE2⟩ := hend ho
        cases hj : idxPap ps x with
        | none =>
          rw [hj] at hIP
          rcases Nat.eq_zero_or_pos i with hi0 | hi0
          · (conv => whnf); (repeat' (first | (refine arith_i ⟨by omega, by omega⟩ ?_; conv => whnf) | (refine arith_u ⟨by omega, by omega⟩ ?_; conv => whnf) | (refine arith_8 ⟨by omega, by omega⟩ ?_; conv => whnf) | (refine need_i (by first | omega | (simp only [List.length_cons, List.length_nil]; omega) | (simp only [List.length_append, List.length_cons, List.length_nil, List.length_map, List.length_replicate, List.length_modify]; omega)) ?_; conv => whnf) | ((with_reducible refine branch_tt ?_); conv => whnf) | ((with_reducible refine branch_ff ?_); conv => whnf) | (with_reducible refine branch_not ?_) | ((refine idx_cs hy ?_); conv => whnf) | ((refine call_e hScr ?_); conv => whnf) | ((refine call_e hCT ?_); conv => whnf) | ((refine call_e hIP ?_); conv => whnf) | ((with_reducible refine slc_e ?_); conv => whnf) | ((with_reducible refine callS_a ?_); conv => whnf) | ((with_reducible refine bld_a ?_); conv => whnf) | ((with_reducible refine own_e ?_); conv => whnf) | ((with_reducible refine mkmap_b ?_); conv => whnf) | (refine draw_i 13 plGL26q_0 (by decide +kernel) ?_; (conv => whnf); fail_if_success (guard_target =~ False)) | (refine draw_i 13 plGL26q_1 (by decide +kernel) ?_; (conv => whnf); fail_if_success (guard_target =~ False)) | (refine draw_i 13 plGL26q_2 (by decide +kernel) ?_; (conv => whnf); fail_if_success (guard_target =~ False)) | (refine draw_i 12 plGL26q_3 (by decide +kernel) ?_; (conv => whnf); fail_if_success (guard_target =~ False)) | (refine draw_i 12 plGL26q_4 (by decide +kernel) ?_; (conv => whnf); fail_if_success (guard_target =~ False)) | (refine draw_i 12 plGL26q_5 (by decide +kernel) ?_; (conv => whnf); fail_if_success (guard_target =~ False)) | ((with_reducible refine And.intro ?_ ?_) <;> (conv => whnf)) | (with_reducible exact trivial) | ((with_reducible refine branch_d (fun hq => ?_) (fun hq => ?_)) <;> (try (exfalso; omega)) <;> (conv => whnf)) | ((with_reducible refine branch_e (fun hq => ?_) (fun hq => ?_)) <;> (try (exfalso; omega)) <;> (conv => whnf)) | ((with_reducible refine branch_n (fun hq => ?_) (fun hq => ?_)) <;> (try (exfalso; omega)) <;> (conv => whnf)) | ((with_reducible refine branch_i (fun hq => ?_) (fun hq => ?_)) <;> (try (exfalso; omega)) <;> (conv => whnf))))
            all_goals exact ret_p rfl (hE1 hj)
          · obtain ⟨z, hzp⟩ : ∃ z, sds[i - 1]? = some z := ⟨_, List.getElem?_eq_getElem (by omega)⟩
            have hpv : prevS sds i = z.script := by unfold prevS; rw [hzp]
            rw [hpv] at ho
            (conv => whnf); (repeat' (first | (refine arith_i ⟨by omega, by omega⟩ ?_; conv => whnf) | (refine arith_u ⟨by omega, by omega⟩ ?_; conv => whnf) | (refine arith_8 ⟨by omega, by omega⟩ ?_; conv => whnf) | (refine need_i (by first | omega | (simp only [List.length_cons, List.length_nil]; omega) | (simp only [List.length_append, List.length_cons, List.length_nil, List.length_map, List.length_replicate, List.length_modify]; omega)) ?_; conv => whnf) | ((with_reducible refine branch_tt ?_); conv => whnf) | ((with_reducible refine branch_ff ?_); conv => whnf) | (with_reducible refine branch_not ?_) | ((refine idx_cs hy ?_); conv => whnf) | ((refine idx_ms (by omega) (by rw [show ((i : Int) - 1).toNat = i - 1 by omega]; exact hzp) ?_); conv => whnf) | ((refine call_e hScr ?_); conv => whnf) | ((refine call_e hCT ?_); conv => whnf) | ((refine call_e hIP ?_); conv => whnf) | ((with_reducible refine slc_e ?_); conv => whnf) | ((with_reducible refine callS_a ?_); conv => whnf) | ((with_reducible refine bld_a ?_); conv => whnf) | ((with_reducible refine own_e ?_); conv => whnf) | ((with_reducible refine mkmap_b ?_); conv => whnf) | (refine draw_i 13 plGL26q_0 (by decide +kernel) ?_; (conv => whnf); fail_if_success (guard_target =~ False)) | (refine draw_i 13 plGL26q_1 (by decide +kernel) ?_; (conv => whnf); fail_if_success (guard_target =~ False)) | (refine draw_i 13 plGL26q_2 (by decide +kernel) ?_; (conv => whnf); fail_if_success (guard_target =~ False)) | (refine draw_i 12 plGL26q_3 (by decide +kernel) ?_; (conv => whnf); fail_if_success (guard_target =~ False)) | (refine draw_i 12 plGL26q_4 (by decide +kernel) ?_; (conv => whnf); fail_if_success (guard_target =~ False)) | (refine draw_i 12 plGL26q_5 (by decide +kernel) ?_; (conv => whnf); fail_if_success (guard_target =~ False)) | ((with_reducible refine And.intro ?_ ?_) <;> (conv => whnf)) | (with_reducible exact trivial) | ((with_reducible refine branch_d (fun hq => ?_) (fun hq => ?_)) <;> (try (exfalso; omega)) <;> (conv => whnf)) | ((with_reducible refine branch_e (fun hq => ?_) (fun hq => ?_)) <;> (try (exfalso; omega)) <;> (conv => whnf)) | ((with_reducible refine branch_n (fun hq => ?_) (fun hq => ?_)) <;> (try (exfalso; omega)) <;> (conv => whnf)) | ((with_reducible refine branch_i (fun hq => ?_) (fun hq => ?_)) <;> (try (exfalso; omega)) <;> (conv => whnf))))
            all_goals exact ret_p rfl (hE1 hj)
        | some j =>
          rw [hj] at hIP
          obtain ⟨q, hqj⟩ := hpat j hj
          obtain ⟨hE3, hE4⟩ := hE2 j q hj hqj
          have hVM := validMarks_ok q y.marks (hpo j q hqj) hym
          have hmv : (decide (y.marks.length = q.parts.length) && vmB q.parts y.marks q.parts.length) = mvB q y.marks := rfl
          rw [hmv] at hVM
          rcases Nat.eq_zero_or_pos i with hi0 | hi0
          · cases hmb : mvB q y.marks with
            | true =>
              rw [hmb] at hVM
              (conv => whnf); (repeat' (first | (refine arith_i ⟨by omega, by omega⟩ ?_; conv => whnf) | (refine arith_u ⟨by omega, by omega⟩ ?_; conv => whnf) | (refine arith_8 ⟨by omega, by omega⟩ ?_; conv => whnf) | (refine need_i (by first | omega | (simp only [List.length_cons, List.length_nil]; omega) | (simp only [List.length_append, List.length_cons, List.length_nil, List.length_map, List.length_replicate, List.length_modify]; omega)) ?_; conv => whnf) | ((with_reducible refine branch_tt ?_); conv => whnf) | ((with_reducible refine branch_ff ?_); conv => whnf) | (with_reducible refine branch_not ?_) | ((refine idx_cs hy ?_); conv => whnf) | ((refine call_e hScr ?_); conv => whnf) | ((refine call_e hCT ?_); conv => whnf) | ((refine call_e hIP ?_); conv => whnf) | ((refine idx_cs hqj ?_); conv => whnf) | ((refine call_e hVM ?_); conv => whnf) | ((with_reducible refine slc_e ?_); conv => whnf) | ((with_reducible refine callS_a ?_); conv => whnf) | ((with_reducible refine bld_a ?_); conv => whnf) | ((with_reducible refine own_e ?_); conv => whnf) | ((with_reducible refine mkmap_b ?_); conv => whnf) | (refine draw_i 13 plGL26q_0 (by decide +kernel) ?_; (conv => whnf); fail_if_success (guard_target =~ False)) | (refine draw_i 13 plGL26q_1 (by decide +kernel) ?_; (conv => whnf); fail_if_success (guard_target =~ False)) | (refine draw_i 13 plGL26q_2 (by decide +kernel) ?_; (conv => whnf); fail_if_success (guard_target =~ False)) | (refine draw_i 12 plGL26q_3 (by decide +kernel) ?_; (conv => whnf); fail_if_success (guard_target =~ False)) | (refine draw_i 12 plGL26q_4 (by decide +kernel) ?_; (conv => whnf); fail_if_success (guard_target =~ False)) | (refine draw_i 12 plGL26q_5 (by decide +kernel) ?_; (conv => whnf); fail_if_success (guard_target =~ False)) | ((with_reducible refine And.intro ?_ ?_) <;> (conv => whnf)) | (with_reducible exact trivial) | ((with_reducible refine branch_d (fun hq => ?_) (fun hq => ?_)) <;> (try (exfalso; omega)) <;> (conv => whnf)) | ((with_reducible refine branch_e (fun hq => ?_) (fun hq => ?_)) <;> (try (exfalso; omega)) <;> (conv => whnf)) | ((with_reducible refine branch_n (fun hq => ?_) (fun hq => ?_)) <;> (try (exfalso; omega)) <;> (conv => whnf)) | ((with_reducible refine branch_i (fun hq => ?_) (fun hq => ?_)) <;> (try (exfalso; omega)) <;> (conv => whnf))))
              all_goals exact ⟨i + 1, ⟨by omega, hE4 hmb⟩, (le_mk (by repeat' (first | exact trivial | rfl | apply And.intro)) (by repeat' (first | exact trivial | rfl | apply And.intro)) rfl), by omega⟩
            | false =>
              rw [hmb] at hVM
              (conv => whnf); (repeat' (first | (refine arith_i ⟨by omega, by omega⟩ ?_; conv => whnf) | (refine arith_u ⟨by omega, by omega⟩ ?_; conv => whnf) | (refine arith_8 ⟨by omega, by omega⟩ ?_; conv => whnf) | (refine need_i (by first | omega | (simp only [List.length_cons, List.length_nil]; omega) | (simp only [List.length_append, List.length_cons, List.length_nil, List.length_map, List.length_replicate, List.length_modify]; omega)) ?_; conv => whnf) | ((with_reducible refine branch_tt ?_); conv => whnf) | ((with_reducible refine branch_ff ?_); conv => whnf) | (with_reducible refine branch_not ?_) | ((refine idx_cs hy ?_); conv => whnf) | ((refine call_e hScr ?_); conv => whnf) | ((refine call_e hCT ?_); conv => whnf) | ((refine call_e hIP ?_); conv => whnf) | ((refine idx_cs hqj ?_); conv => whnf) | ((refine call_e hVM ?_); conv => whnf) | ((with_reducible refine slc_e ?_); conv => whnf) | ((with_reducible refine callS_a ?_); conv => whnf) | ((with_reducible refine bld_a ?_); conv => whnf) | ((with_reducible refine own_e ?_); conv => whnf) | ((with_reducible refine mkmap_b ?_); conv => whnf) | (refine draw_i 13 plGL26q_0 (by decide +kernel) ?_; (conv => whnf); fail_if_success (guard_target =~ False)) | (refine draw_i 13 plGL26q_1 (by decide +kernel) ?_; (conv => whnf); fail_if_success (guard_target =~ False)) | (refine draw_i 13 plGL26q_2 (by decide +kernel) ?_; (conv => whnf); fail_if_success (guard_target =~ False)) | (refine draw_i 12 plGL26q_3 (by decide +kernel) ?_; (conv => whnf); fail_if_success (guard_target =~ False)) | (refine draw_i 12 plGL26q_4 (by decide +kernel) ?_; (conv => whnf); fail_if_success (guard_target =~ False)) | (refine draw_i 12 plGL26q_5 (by decide +kernel) ?_; (conv => whnf); fail_if_success (guard_target =~ False)) | ((with_reducible refine And.intro ?_ ?_) <;> (conv => whnf)) | (with_reducible exact trivial) | ((with_reducible refine branch_d (fun hq => ?_) (fun hq => ?_)) <;> (try (exfalso; omega)) <;> (conv => whnf)) | ((with_reducible refine branch_e (fun hq => ?_) (fun hq => ?_)) <;> (try (exfalso; omega)) <;> (conv => whnf)) | ((with_reducible refine branch_n (fun hq => ?_) (fun hq => ?_)) <;> (try (exfalso; omega)) <;> (conv => whnf)) | ((with_reducible refine branch_i (fun hq => ?_) (fun hq => ?_)) <;> (try (exfalso; omega)) <;> (conv => whnf))))
              all_goals exact ret_p rfl (hE3 hmb)
          · obtain ⟨z, hzp⟩ : ∃ z, sds[i - 1]? = some z := ⟨_, List.getElem?_eq_getElem (by omega)⟩
            have hpv : prevS sds i = z.script := by unfold prevS; rw [hzp]
            rw [hpv] at ho
            cases hmb : mvB q y.marks with
            | true =>
              rw [hmb] at hVM
              (conv => whnf); (repeat' (first | (refine arith_i ⟨by omega, by omega⟩ ?_; conv => whnf) | (refine arith_u ⟨by omega, by omega⟩ ?_; conv => whnf) | (refine arith_8 ⟨by omega, by omega⟩ ?_; conv => whnf) | (refine need_i (by first | omega | (simp only [List.length_cons, List.length_nil]; omega) | (simp only [List.length_append, List.length_cons, List.length_nil, List.length_map, List.length_replicate, List.length_modify]; omega)) ?_; conv => whnf) | ((with_reducible refine branch_tt ?_); conv => whnf) | ((with_reducible refine branch_ff ?_); conv => whnf) | (with_reducible refine branch_not ?_) | ((refine idx_cs hy ?_); conv => whnf) | ((refine idx_ms (by omega) (by rw [show ((i : Int) - 1).toNat = i - 1 by omega]; exact hzp) ?_); conv => whnf) | ((refine call_e hScr ?_); conv => whnf) | ((refine call_e hCT ?_); conv => whnf) | ((refine call_e hIP ?_); conv => whnf) | ((refine idx_cs hqj ?_); conv => whnf) | ((refine call_e hVM ?_); conv => whnf) | ((with_reducible refine slc_e ?_); conv => whnf) | ((with_reducible refine callS_a ?_); conv => whnf) | ((with_reducible refine bld_a ?_); conv => whnf) | ((with_reducible refine own_e ?_); conv => whnf) | ((with_reducible refine mkmap_b ?_); conv => whnf) | (refine draw_i 13 plGL26q_0 (by decide +kernel) ?_; (conv => whnf); fail_if_success (guard_target =~ False)) | (refine draw_i 13 plGL26q_1 (by decide +kernel) ?_; (conv => whnf); fail_if_success (guard_target =~ False)) | (refine draw_i 13 plGL26q_2 (by decide +kernel) ?_; (conv => whnf); fail_if_success (guard_target =~ False)) | (refine draw_i 12 plGL26q_3 (by decide +kernel) ?_; (conv => whnf); fail_if_success (guard_target =~ False)) | (refine draw_i 12 plGL26q_4 (by decide +kernel) ?_; (conv => whnf); fail_if_success (guard_target =~ False)) | (refine draw_i 12 plGL26q_5 (by decide +kernel) ?_; (conv => whnf); fail_if_success (guard_target =~ False)) | ((with_reducible refine And.intro ?_ ?_) <;> (conv => whnf)) | (with_reducible exact trivial) | ((with_reducible refine branch_d (fun hq => ?_) (fun hq => ?_)) <;> (try (exfalso; omega)) <;> (conv => whnf)) | ((with_reducible refine branch_e (fun hq => ?_) (fun hq => ?_)) <;> (try (exfalso; omega)) <;> (conv => whnf)) | ((with_reducible refine branch_n (fun hq => ?_) (fun hq => ?_)) <;> (try (exfalso; omega)) <;> (conv => whnf)) | ((with_reducible refine branch_i (fun hq => ?_) (fun hq => ?_)) <;> (try (exfalso; omega)) <;> (conv => whnf))))
              all_goals exact ⟨i + 1, ⟨by omega, hE4 hmb⟩, (le_mk (by repeat' (first | exact trivial | rfl | apply And.intro)) (by repeat' (first | exact trivial | rfl | apply And.intro)) rfl), by omega⟩
            | false =>
              rw [hmb] at hVM
              (conv => whnf); (repeat' (first | (refine arith_i ⟨by omega, by omega⟩ ?_; conv => whnf) | (refine arith_u ⟨by omega, by omega⟩ ?_; conv => whnf) | (refine arith_8 ⟨by omega, by omega⟩ ?_; conv => whnf) | (refine need_i (by first | omega | (simp only [List.length_cons, List.length_nil]; omega) | (simp only [List.length_append, List.length_cons, List.length_nil, List.length_map, List.length_replicate, List.length_modify]; omega)) ?_; conv => whnf) | ((with_reducible refine branch_tt ?_); conv => whnf) | ((with_reducible refine branch_ff ?_); conv => whnf) | (with_reducible refine branch_not ?_) | ((refine idx_cs hy ?_); conv => whnf) | ((refine idx_ms (by omega) (by rw [show ((i : Int) - 1).toNat = i - 1 by omega]; exact hzp) ?_); conv => whnf) | ((refine call_e hScr ?_); conv => whnf) | ((refine call_e hCT ?_); conv => whnf) | ((refine call_e hIP ?_); conv => whnf) | ((refine idx_cs hqj ?_); conv => whnf) | ((refine call_e hVM ?_); conv => whnf) | ((with_reducible refine slc_e ?_); conv => whnf) | ((with_reducible refine callS_a ?_); conv => whnf) | ((with_reducible refine bld_a ?_); conv => whnf) | ((with_reducible refine own_e ?_); conv => whnf) | ((with_reducible refine mkmap_b ?_); conv => whnf) | (refine draw_i 13 plGL26q_0 (by decide +kernel) ?_; (conv => whnf); fail_if_success (guard_target =~ False)) | (refine draw_i 13 plGL26q_1 (by decide +kernel) ?_; (conv => whnf); fail_if_success (guard_target =~ False)) | (refine draw_i 13 plGL26q_2 (by decide +kernel) ?_; (conv => whnf); fail_if_success (guard_target =~ False)) | (refine draw_i 12 plGL26q_3 (by decide +kernel) ?_; (conv => whnf); fail_if_success (guard_target =~ False)) | (refine draw_i 12 plGL26q_4 (by decide +kernel) ?_; (conv => whnf); fail_if_success (guard_target =~ False)) | (refine draw_i 12 plGL26q_5 (by decide +kernel) ?_; (conv => whnf); fail_if_success (guard_target =~ False)) | ((with_reducible refine And.intro ?_ ?_) <;> (conv => whnf)) | (with_reducible exact trivial) | ((with_reducible refine branch_d (fun hq => ?_) (fun hq => ?_)) <;> (try (exfalso; omega)) <;> (conv => whnf)) | ((with_reducible refine branch_e (fun hq => ?_) (fun hq => ?_)) <;> (try (exfalso; omega)) <;> (conv => whnf)) | ((with_reducible refine branch_n (fun hq => ?_) (fun hq => ?_)) <;> (try (exfalso; omega)) <;> (conv => whnf)) | ((with_reducible refine branch_i (fun hq => ?_) (fun hq => ?_)) <;> (try (exfalso; omega)) <;> (conv => whnf))))
              all_goals exact ret_p rfl (hE3 hmb)
  · (conv => whnf); (repeat' (first | (refine arith_i ⟨by omega, by omega⟩ ?_; conv => whnf) | (refine arith_u ⟨by omega, by omega⟩ ?_; conv => whnf) | (refine arith_8 ⟨by omega, by omega⟩ ?_; conv => whnf) | (refine need_i (by first | omega | (simp only [List.length_cons, List.length_nil]; omega) | (simp only [List.length_append, List.length_cons, List.length_nil, List.length_map, List.length_replicate, List.length_modify]; omega)) ?_; conv => whnf) | ((with_reducible refine branch_tt ?_); conv => whnf) | ((with_reducible refine branch_ff ?_); conv => whnf) | (with_reducible refine branch_not ?_) | ((with_reducible refine slc_e ?_); conv => whnf) | ((with_reducible refine callS_a ?_); conv => whnf) | ((with_reducible refine bld_a ?_); conv => whnf) | ((with_reducible refine own_e ?_); conv => whnf) | ((with_reducible refine mkmap_b ?_); conv => whnf) | (refine draw_i 13 plGL26q_0 (by decide +kernel) ?_; (conv => whnf); fail_if_success (guard_target =~ False)) | (refine draw_i 13 plGL26q_1 (by decide +kernel) ?_; (conv => whnf); fail_if_success (guard_target =~ False)) | (refine draw_i 13 plGL26q_2 (by decide +kernel) ?_; (conv => whnf); fail_if_success (guard_target =~ False)) | (refine draw_i 12 plGL26q_3 (by decide +kernel) ?_; (conv => whnf); fail_if_success (guard_target =~ False)) | (refine draw_i 12 plGL26q_4 (by decide +kernel) ?_; (conv => whnf); fail_if_success (guard_target =~ False)) | (refine draw_i 12 plGL26q_5 (by decide +kernel) ?_; (conv => whnf); fail_if_success (guard_target =~ False)) | ((with_reducible refine And.intro ?_ ?_) <;> (conv => whnf)) | (with_reducible exact trivial) | ((with_reducible refine branch_d (fun hq => ?_) (fun hq => ?_)) <;> (try (exfalso; omega)) <;> (conv => whnf)) | ((with_reducible refine branch_e (fun hq => ?_) (fun hq => ?_)) <;> (try (exfalso; omega)) <;> (conv => whnf)) | ((with_reducible refine branch_n (fun hq => ?_) (fun hq => ?_)) <;> (try (exfalso; omega)) <;> (conv => whnf)) | ((with_reducible refine branch_i (fun hq => ?_) (fun hq => ?_)) <;> (try (exfalso; omega)) <;> (conv => whnf))))
    obtain rfl : i = sds.length := by omega
    exact ret_p rfl (int_eq hz.symm)
end Go.Proofs.Ytpmoflggmdfmnaa
end

/- Layer 26: views of the reference; whether lists are equal. -/
section
namespace Go.Proofs.Ytpmoflggmdfmnaa
set_option linter.unusedVariables false
set_option linter.unusedSimpArgs false
set_option linter.unnecessarySimpa false
set_option linter.unusedSectionVars false
set_option maxRecDepth 10000
open Go.RowKit
theorem same26_ok (a b : List Int) (ha : a.length ≤ 1000000) (hb : b.length ≤ 1000000) : Good Try.prog TT false 37 [ints a, ints b] (· = .bool (decide (a = b))) := by
  have L1 : (a.map encI).length = a.length := List.length_map ..
  have L2 : (b.map encI).length = b.length := List.length_map ..
  refine good_of mixed tabOk Try.func37 rfl rfl Try.ntmps37 Try.results37 rfl rfl ?_
  (conv => whnf); (repeat (first | (refine arith_i ⟨by omega, by omega⟩ ?_; conv => whnf) | (refine need_i (by first | omega | (simp only [List.length_append, List.length_cons, List.length_nil]; omega)) ?_; conv => whnf) | ((with_reducible refine branch_tt ?_); conv => whnf) | ((with_reducible refine branch_ff ?_); conv => whnf) | (with_reducible refine branch_not ?_) | ((with_reducible refine slc_e ?_); conv => whnf) | ((with_reducible refine callS_a ?_); conv => whnf) | ((with_reducible refine bld_a ?_); conv => whnf) | ((with_reducible refine own_e ?_); conv => whnf) | ((with_reducible refine mkmap_b ?_); conv => whnf)))
  refine branch_n (fun h => ?_) (fun h => ?_)
  · (conv => whnf); (repeat (first | (refine arith_i ⟨by omega, by omega⟩ ?_; conv => whnf) | (refine need_i (by first | omega | (simp only [List.length_append, List.length_cons, List.length_nil]; omega)) ?_; conv => whnf) | ((with_reducible refine branch_tt ?_); conv => whnf) | ((with_reducible refine branch_ff ?_); conv => whnf) | (with_reducible refine branch_not ?_) | ((with_reducible refine slc_e ?_); conv => whnf) | ((with_reducible refine callS_a ?_); conv => whnf) | ((with_reducible refine bld_a ?_); conv => whnf) | ((with_reducible refine own_e ?_); conv => whnf) | ((with_reducible refine mkmap_b ?_); conv => whnf)))
    exact ret_p rfl (bool_eq (by rw [eq_comm, decide_eq_false_iff_not]; rintro rfl; exact h rfl))
  · (conv => whnf); (repeat (first | (refine arith_i ⟨by omega, by omega⟩ ?_; conv => whnf) | (refine need_i (by first | omega | (simp only [List.length_append, List.length_cons, List.length_nil]; omega)) ?_; conv => whnf) | ((with_reducible refine branch_tt ?_); conv => whnf) | ((with_reducible refine branch_ff ?_); conv => whnf) | (with_reducible refine branch_not ?_) | ((with_reducible refine slc_e ?_); conv => whnf) | ((with_reducible refine callS_a ?_); conv => whnf) | ((with_reducible refine bld_a ?_); conv => whnf) | ((with_reducible refine own_e ?_); conv => whnf) | ((with_reducible refine mkmap_b ?_); conv => whnf)))
    refine loop_i (fun k : Nat => k ≤ a.length ∧ ∀ i, i < k → a[i]? = b[i]?) (fun k => mkSt [(0, ints a), (1, ints b), (12, .int .i64 (a.map encI).length), (13, .int .i64 k)] [] false) (fun k => a.length - k) 0 ⟨Nat.zero_le _, nofun⟩ (le_mk ⟨rfl, rfl, rfl, rfl, trivial⟩ trivial rfl) ?_
    rintro k ⟨hk, hall⟩
    (conv => whnf); (repeat (first | (refine arith_i ⟨by omega, by omega⟩ ?_; conv => whnf) | (refine need_i (by first | omega | (simp only [List.length_append, List.length_cons, List.length_nil]; omega)) ?_; conv => whnf) | ((with_reducible refine branch_tt ?_); conv => whnf) | ((with_reducible refine branch_ff ?_); conv => whnf) | (with_reducible refine branch_not ?_) | ((with_reducible refine slc_e ?_); conv => whnf) | ((with_reducible refine callS_a ?_); conv => whnf) | ((with_reducible refine bld_a ?_); conv => whnf) | ((with_reducible refine own_e ?_); conv => whnf) | ((with_reducible refine mkmap_b ?_); conv => whnf)))
    refine branch_d (fun h1 => ?_) (fun h1 => ?_)
    · (conv => whnf); (repeat (first | (refine arith_i ⟨by omega, by omega⟩ ?_; conv => whnf) | (refine need_i (by first | omega | (simp only [List.length_append, List.length_cons, List.length_nil]; omega)) ?_; conv => whnf) | ((with_reducible refine branch_tt ?_); conv => whnf) | ((with_reducible refine branch_ff ?_); conv => whnf) | (with_reducible refine branch_not ?_) | ((with_reducible refine slc_e ?_); conv => whnf) | ((with_reducible refine callS_a ?_); conv => whnf) | ((with_reducible refine bld_a ?_); conv => whnf) | ((with_reducible refine own_e ?_); conv => whnf) | ((with_reducible refine mkmap_b ?_); conv => whnf)))
      refine draw_i 9 (.take 0 (.take 1 (.take 2 (.take 3 (.take 4 (.take 5 (.take 6 (.take 7 (.take 8 .done))))))))) (by decide +kernel) ?_
      (conv => whnf); (repeat (first | (refine arith_i ⟨by omega, by omega⟩ ?_; conv => whnf) | (refine need_i (by first | omega | (simp only [List.length_append, List.length_cons, List.length_nil]; omega)) ?_; conv => whnf) | ((with_reducible refine branch_tt ?_); conv => whnf) | ((with_reducible refine branch_ff ?_); conv => whnf) | (with_reducible refine branch_not ?_) | ((with_reducible refine slc_e ?_); conv => whnf) | ((with_reducible refine callS_a ?_); conv => whnf) | ((with_reducible refine bld_a ?_); conv => whnf) | ((with_reducible refine own_e ?_); conv => whnf) | ((with_reducible refine mkmap_b ?_); conv => whnf)))
      refine idx_m (by omega) (by omega) fun x hx => ?_
      rw [Int.toNat_natCast] at hx
      (conv => whnf); (repeat (first | (refine arith_i ⟨by omega, by omega⟩ ?_; conv => whnf) | (refine need_i (by first | omega | (simp only [List.length_append, List.length_cons, List.length_nil]; omega)) ?_; conv => whnf) | ((with_reducible refine branch_tt ?_); conv => whnf) | ((with_reducible refine branch_ff ?_); conv => whnf) | (with_reducible refine branch_not ?_) | ((with_reducible refine slc_e ?_); conv => whnf) | ((with_reducible refine callS_a ?_); conv => whnf) | ((with_reducible refine bld_a ?_); conv => whnf) | ((with_reducible refine own_e ?_); conv => whnf) | ((with_reducible refine mkmap_b ?_); conv => whnf)))
      refine idx_m (by omega) (by omega) fun y hy => ?_
      rw [Int.toNat_natCast] at hy
      (conv => whnf); (repeat (first | (refine arith_i ⟨by omega, by omega⟩ ?_; conv => whnf) | (refine need_i (by first | omega | (simp only [List.length_append, List.length_cons, List.length_nil]; omega)) ?_; conv => whnf) | ((with_reducible refine branch_tt ?_); conv => whnf) | ((with_reducible refine branch_ff ?_); conv => whnf) | (with_reducible refine branch_not ?_) | ((with_reducible refine slc_e ?_); conv => whnf) | ((with_reducible refine callS_a ?_); conv => whnf) | ((with_reducible refine bld_a ?_); conv => whnf) | ((with_reducible refine own_e ?_); conv => whnf) | ((with_reducible refine mkmap_b ?_); conv => whnf)))
      refine branch_n (fun he => ?_) (fun he => ?_)
      · (conv => whnf); (repeat (first | (refine arith_i ⟨by omega, by omega⟩ ?_; conv => whnf) | (refine need_i (by first | omega | (simp only [List.length_append, List.length_cons, List.length_nil]; omega)) ?_; conv => whnf) | ((with_reducible refine branch_tt ?_); conv => whnf) | ((with_reducible refine branch_ff ?_); conv => whnf) | (with_reducible refine branch_not ?_) | ((with_reducible refine slc_e ?_); conv => whnf) | ((with_reducible refine callS_a ?_); conv => whnf) | ((with_reducible refine bld_a ?_); conv => whnf) | ((with_reducible refine own_e ?_); conv => whnf) | ((with_reducible refine mkmap_b ?_); conv => whnf)))
        exact ret_p rfl (bool_eq (by rw [eq_comm, decide_eq_false_iff_not]; rintro rfl; rw [hx] at hy; injection hy with hy; exact he hy))
      · (conv => whnf); (repeat (first | (refine arith_i ⟨by omega, by omega⟩ ?_; conv => whnf) | (refine need_i (by first | omega | (simp only [List.length_append, List.length_cons, List.length_nil]; omega)) ?_; conv => whnf) | ((with_reducible refine branch_tt ?_); conv => whnf) | ((with_reducible refine branch_ff ?_); conv => whnf) | (with_reducible refine branch_not ?_) | ((with_reducible refine slc_e ?_); conv => whnf) | ((with_reducible refine callS_a ?_); conv => whnf) | ((with_reducible refine bld_a ?_); conv => whnf) | ((with_reducible refine own_e ?_); conv => whnf) | ((with_reducible refine mkmap_b ?_); conv => whnf)))
        refine ⟨k + 1, ⟨by omega, fun i hi => ?_⟩, le_mk ⟨rfl, rfl, rfl, rfl, trivial⟩ trivial rfl, by omega⟩
        rcases Nat.lt_or_ge i k with h' | h'
        · exact hall i h'
        · obtain rfl : i = k := by omega
          rw [hx, hy, he]
    · (conv => whnf); (repeat (first | (refine arith_i ⟨by omega, by omega⟩ ?_; conv => whnf) | (refine need_i (by first | omega | (simp only [List.length_append, List.length_cons, List.length_nil]; omega)) ?_; conv => whnf) | ((with_reducible refine branch_tt ?_); conv => whnf) | ((with_reducible refine branch_ff ?_); conv => whnf) | (with_reducible refine branch_not ?_) | ((with_reducible refine slc_e ?_); conv => whnf) | ((with_reducible refine callS_a ?_); conv => whnf) | ((with_reducible refine bld_a ?_); conv => whnf) | ((with_reducible refine own_e ?_); conv => whnf) | ((with_reducible refine mkmap_b ?_); conv => whnf)))
      refine ret_p rfl (bool_eq (by
        rw [eq_comm, decide_eq_true_iff]
        apply List.ext_getElem?
        intro i
        rcases Nat.lt_or_ge i k with h' | h'
        · exact hall i h'
        · rw [List.getElem?_eq_none (by omega), List.getElem?_eq_none (by omega)]))
theorem same26_refl (a : List Int) (ha : a.length ≤ 1000000) : Good Try.prog TT false 37 [ints a, ints a] (· = .bool true) := (same26_ok a a ha ha).mono fun r h => h.trans (bool_eq (decide_eq_true rfl))
def mk26 : List Mrk := [⟨1, -1, 1, 9, [0]⟩]
def sc26 (i : Nat) : Scr := ⟨10 + i, 0, 10 + i, 0, 0, [10 + (i : Int)], []⟩
def ss26 (n : Nat) : List Scr := (List.range n).map sc26
theorem snoc26 {t : Tg} {e : Nat} {k : Nat} {cs : List AV} (h : cs = encR (sc26 k)) : AV.own t e 7 ((ss26 k).map encR ++ [cs]) = .own t e 7 ((ss26 (k + 1)).map encR) := by
  subst h
  rw [ss26, ss26, List.range_succ]; simp
theorem mk26_ok : MksOk mk26 := by
  refine ⟨by decide, fun k m h => ?_, fun i j a b hij ha hb => ?_⟩
  · have hm := List.mem_of_getElem? h
    simp only [mk26, List.mem_cons, List.not_mem_nil, or_false] at hm
    subst hm
    refine ⟨by decide, by decide, by decide, by decide, fun k x hx => ?_, fun i h0 h1 => ?_, by decide⟩
    · have := List.mem_of_getElem? hx
      simp only [List.mem_cons, List.not_mem_nil, or_false] at this
      subst this; rfl
    · simp only [List.length_cons, List.length_nil] at h1; omega
  · have h1 := (List.getElem?_eq_some_iff.1 ha).1
    have h2 := (List.getElem?_eq_some_iff.1 hb).1
    simp only [mk26, List.length_cons, List.length_nil] at h1 h2
    omega
theorem ss26_ok : ScsOk (ss26 4) := by
  have hat : ∀ (k : Nat) (m : Scr), (ss26 4)[k]? = some m → k < 4 ∧ m = sc26 k := fun k m h => by
    rw [ss26, List.getElem?_map, Option.map_eq_some_iff] at h
    obtain ⟨j, hj, rfl⟩ := h
    obtain ⟨h1, h2⟩ := List.getElem?_eq_some_iff.1 hj
    simp at h1 h2; subst h2; exact ⟨h1, rfl⟩
  refine ⟨by decide, fun k m h => ?_, fun k a b ha hb => ?_⟩
  · obtain ⟨h1, rfl⟩ := hat k m h
    exact ⟨⟨rfl, by simp only [sc26]; omega, by simp only [sc26]; omega, by simp only [sc26]; omega, by simp only [sc26]; omega⟩, by simp [sc26]⟩
  · obtain ⟨h1, rfl⟩ := hat k a ha
    obtain ⟨h2, rfl⟩ := hat (k + 1) b hb
    show (10 + k : Int) < 10 + (k + 1 : Nat); omega
theorem q26 : queueF mk26 (ss26 4) [(11, 1)] 2 1 = [10, 11, 12] := by
  rw [queue_eq ss26_ok]; decide
set_option maxHeartbeats 4000000 in
theorem sane26_ok : Good Try.prog TT false 30 [] (· = .bool true) := by
  refine good_of mixed tabOk Try.func30 rfl rfl Try.ntmps30 Try.results30 rfl rfl ?_
  (conv => whnf); (repeat' (first | (refine arith_i ⟨by omega, by omega⟩ ?_; conv => whnf) | (refine arith_u ⟨by omega, by omega⟩ ?_; conv => whnf) | (refine arith_8 ⟨by omega, by omega⟩ ?_; conv => whnf) | (refine need_i (by first | omega | (simp only [List.length_cons, List.length_nil]; omega) | (simp only [List.length_append, List.length_cons, List.length_nil, List.length_map, List.length_replicate, List.length_modify]; omega)) ?_; conv => whnf) | ((with_reducible refine branch_tt ?_); conv => whnf) | ((with_reducible refine branch_ff ?_); conv => whnf) | (with_reducible refine branch_not ?_) | ((refine nils_i [.int .i64 1, .int .i64 (-1), .int .i64 1, .int .i64 9, .lst 1 [[.int .i64 0]]] ⟨rfl, rfl, rfl, rfl, rfl, trivial⟩ ?_); conv => whnf) | ((with_reducible refine slc_e ?_); conv => whnf) | ((with_reducible refine callS_a ?_); conv => whnf) | ((with_reducible refine bld_a ?_); conv => whnf) | ((with_reducible refine own_e ?_); conv => whnf) | ((with_reducible refine mkmap_b ?_); conv => whnf) | ((with_reducible refine branch_d (fun hq => ?_) (fun hq => ?_)) <;> (try (exfalso; omega)) <;> (conv => whnf)) | ((with_reducible refine branch_e (fun hq => ?_) (fun hq => ?_)) <;> (try (exfalso; omega)) <;> (conv => whnf)) | ((with_reducible refine branch_n (fun hq => ?_) (fun hq => ?_)) <;> (try (exfalso; omega)) <;> (conv => whnf)) | ((with_reducible refine branch_i (fun hq => ?_) (fun hq => ?_)) <;> (try (exfalso; omega)) <;> (conv => whnf))))
  refine loop_i (fun i : Nat => i ≤ 4) (fun i => mkSt [(1, .own 10 65 5 (mk26.map encM)), (2, .own 200 63 7 ((ss26 i).map encR)), (3, .int .i64 (10 + i))] [] false) (fun i => 4 - i) 0 (Nat.zero_le _) (Le.trans (le_adopt 2 200 63 7 rfl) (le_mk ⟨rfl, rfl, rfl, trivial⟩ trivial rfl)) ?_
  intro i hi
  have L : ((ss26 i).map encR).length = i := by simp [ss26]
  rcases Nat.lt_or_ge i 4 with hil | hil
  · (conv => whnf); (repeat' (first | (refine arith_i ⟨by omega, by omega⟩ ?_; conv => whnf) | (refine arith_u ⟨by omega, by omega⟩ ?_; conv => whnf) | (refine arith_8 ⟨by omega, by omega⟩ ?_; conv => whnf) | (refine need_i (by first | omega | (simp only [List.length_cons, List.length_nil]; omega) | (simp only [List.length_append, List.length_cons, List.length_nil, List.length_map, List.length_replicate, List.length_modify]; omega)) ?_; conv => whnf) | ((with_reducible refine branch_tt ?_); conv => whnf) | ((with_reducible refine branch_ff ?_); conv => whnf) | (with_reducible refine branch_not ?_) | ((refine nils_i [.int .i64 (10 + i), .int .i64 0, .int .i64 (10 + i), .int .i64 0, .int .i64 0, .lst 1 [[.int .i64 (10 + i)]], .lst 1 []] ⟨rfl, rfl, rfl, rfl, rfl, rfl, pc_nil 1, trivial⟩ ?_); conv => whnf) | ((with_reducible refine slc_e ?_); conv => whnf) | ((with_reducible refine callS_a ?_); conv => whnf) | ((with_reducible refine bld_a ?_); conv => whnf) | ((with_reducible refine own_e ?_); conv => whnf) | ((with_reducible refine mkmap_b ?_); conv => whnf) | ((with_reducible refine branch_d (fun hq => ?_) (fun hq => ?_)) <;> (try (exfalso; omega)) <;> (conv => whnf)) | ((with_reducible refine branch_e (fun hq => ?_) (fun hq => ?_)) <;> (try (exfalso; omega)) <;> (conv => whnf)) | ((with_reducible refine branch_n (fun hq => ?_) (fun hq => ?_)) <;> (try (exfalso; omega)) <;> (conv => whnf)) | ((with_reducible refine branch_i (fun hq => ?_) (fun hq => ?_)) <;> (try (exfalso; omega)) <;> (conv => whnf))))
    exact ⟨i + 1, by omega, le_mk ⟨rfl, snoc26 rfl, int_eq (by omega), trivial⟩ trivial rfl, by omega⟩
  · obtain rfl : i = 4 := by omega
    have hQ := sQueue_ok mk26 (ss26 4) [(11, 1)] 2 1 (by decide) mk26_ok ss26_ok (by decide)
    have hV := views_ok mk26 (ss26 4) [(11, 1)] 2 1 (by decide) mk26_ok ss26_ok (by decide)
    rw [q26] at hQ hV
    replace hV : Good Try.prog TT false 33 [mrksV mk26, scrsV (ss26 4), tasksV [(11, 1)], .int .i64 2, .int .i64 1] (· = .own 0 74 4 [[.int .i64 0, .int .i64 0, .int .i64 0, ints [10]], [.int .i64 1, .int .i64 0, .int .i64 0, ints [11]], [.int .i64 2, .int .i64 0, .int .i64 0, ints [12]]]) := hV.mono fun r h => h.trans rfl
    have hC : Good Try.prog TT false 34 [scrsV (ss26 4), .int .i64 2] (· = .own 0 3 1 [[.int .i64 10], [.int .i64 12]]) := (common_ok (ss26 4) 2 ss26_ok (by decide)).mono fun r h => h.trans rfl
    have hD : Good Try.prog TT false 45 [sedsV [⟨12, [3]⟩], .int .i64 12] (· = .tup [ints [3], .bool true]) := definitive_ok [⟨12, [3]⟩] 12 (by decide) (fun k x h => by
      have := List.mem_of_getElem? h
      simp only [List.mem_cons, List.not_mem_nil, or_false] at this
      subst this; decide)
    (conv => whnf); (repeat' (first | (refine arith_i ⟨by omega, by omega⟩ ?_; conv => whnf) | (refine arith_u ⟨by omega, by omega⟩ ?_; conv => whnf) | (refine arith_8 ⟨by omega, by omega⟩ ?_; conv => whnf) | (refine need_i (by first | omega | (simp only [List.length_cons, List.length_nil]; omega) | (simp only [List.length_append, List.length_cons, List.length_nil, List.length_map, List.length_replicate, List.length_modify]; omega)) ?_; conv => whnf) | ((with_reducible refine branch_tt ?_); conv => whnf) | ((with_reducible refine branch_ff ?_); conv => whnf) | (with_reducible refine branch_not ?_) | ((refine ⟨⟨by decide, _, (rfl : _ = some [.int .i64 1, .int .i64 0, .int .i64 0, ints [11]]), ?_⟩⟩); conv => whnf) | ((refine call_e hQ ?_); conv => whnf) | ((refine call_e hV ?_); conv => whnf) | ((refine call_e hC ?_); conv => whnf) | ((refine call_e hD ?_); conv => whnf) | ((refine call_e (same26_refl [10, 12] (by decide)) ?_); conv => whnf) | ((refine call_e (same26_refl [10, 11, 12] (by decide)) ?_); conv => whnf) | ((refine call_e (same26_refl [11] (by decide)) ?_); conv => whnf) | ((refine call_e (same26_refl [3] (by decide)) ?_); conv => whnf) | ((with_reducible refine slc_e ?_); conv => whnf) | ((with_reducible refine callS_a ?_); conv => whnf) | ((with_reducible refine bld_a ?_); conv => whnf) | ((with_reducible refine own_e ?_); conv => whnf) | ((with_reducible refine mkmap_b ?_); conv => whnf) | ((with_reducible refine branch_d (fun hq => ?_) (fun hq => ?_)) <;> (try (exfalso; omega)) <;> (conv => whnf)) | ((with_reducible refine branch_e (fun hq => ?_) (fun hq => ?_)) <;> (try (exfalso; omega)) <;> (conv => whnf)) | ((with_reducible refine branch_n (fun hq => ?_) (fun hq => ?_)) <;> (try (exfalso; omega)) <;> (conv => whnf)) | ((with_reducible refine branch_i (fun hq => ?_) (fun hq => ?_)) <;> (try (exfalso; omega)) <;> (conv => whnf))))
    all_goals first | exact ret_p rfl rfl | exact absurd rfl hq | (exfalso; simp at hq)
end Go.Proofs.Ytpmoflggmdfmnaa
end

/- Layer 25: assignments of the reference: start, fill, Least, Allocate. -/
section
namespace Go.Proofs.Ytpmoflggmdfmnaa
set_option linter.unusedVariables false
set_option linter.unusedSimpArgs false
set_option linter.unnecessarySimpa false
set_option linter.unusedSectionVars false
set_option maxRecDepth 10000
open Go.RowKit
def plGL25h_0 : Plan := (.take 0 (.take 1 (.take 2 (.take 3 (.take 4 (.take 5 (.take 6 (.alt 7 (.alt 8 (.alt 9 (.take 10 (.take 11 (.alt 12 .done .stop))) .stop) .stop) .stop))))))))
def plGL25h_1 : Plan := (.take 0 (.take 1 (.take 2 (.take 3 (.take 5 (.take 6 (.alt 4 (.alt 7 (.alt 8 (.alt 9 (.take 10 (.take 11 (.alt 12 .done .stop))) .stop) .stop) .stop) (.alt 7 (.alt 4 (.alt 8 (.alt 9 (.take 10 (.take 11 (.alt 12 .done .stop))) .stop) .stop) (.alt 8 (.alt 4 (.alt 9 (.take 10 (.take 11 (.alt 12 .done .stop))) .stop) .stop) .stop)) .stop))))))))
def plGL25h_2 : Plan := (.take 0 (.take 1 (.take 2 (.take 3 (.take 4 (.take 5 (.take 6 (.take 7 (.take 8 (.take 9 (.take 10 (.take 11 (.alt 12 (.alt 13 (.take 14 (.take 15 (.alt 16 .done .stop))) .stop) .stop)))))))))))))
def plGL25h_3 : Plan := (.take 0 (.take 1 (.take 2 (.take 3 (.take 4 (.take 5 (.take 6 (.take 7 (.take 8 (.take 10 (.alt 9 (.take 11 (.alt 12 (.alt 13 (.take 14 (.take 15 (.alt 16 .done .stop))) .stop) .stop)) .stop)))))))))))
def plGL25h_4 : Plan := (.take 0 (.take 1 (.take 2 (.take 3 (.take 5 (.take 6 (.take 7 (.take 8 (.take 10 (.alt 4 (.alt 9 (.take 11 (.alt 12 (.alt 13 (.take 14 (.take 15 (.alt 16 .done .stop))) .stop) .stop)) .stop) (.alt 9 (.take 11 (.alt 4 (.alt 12 (.alt 13 (.take 14 (.take 15 (.alt 16 .done .stop))) .stop) .stop) (.alt 12 (.alt 4 (.alt 13 (.take 14 (.take 15 (.alt 16 .done .stop))) .stop) .stop) .stop))) .stop)))))))))))
def rflowG (t1 t2 : Nat) (l : List Mrk) (s : List Scr) (lim : Nat → Nat) (f : Flw) : List AV := [mrksV l, scrsV s, .mat t1 111 4 1 (rowsC s.length l.length f.A), .own t2 3 1 (nsL l.length f.ld), .lst 1 (nsL l.length lim)]
theorem st_box {a a' : List (Option (List (List AV)))} {b b' c c' : List (List AV)} {x y : AV} {t e e2 z2 t2 e3 t3 e4 : Nat} (h1 : a = a') (h2 : b' = b) (h3 : c' = c) : some [x, y, AV.mat t e e2 z2 a, AV.own t2 e3 1 b, AV.own t3 e4 1 c] = some [x, y, AV.mat t e e2 z2 a', AV.own t2 e3 1 b', AV.own t3 e4 1 c'] := by rw [h1, h2, h3]
set_option maxHeartbeats 4000000 in
theorem start_ok (l : List Mrk) (s : List Scr) (most : Nat) (hl : MksOk l) (hs : ScsOk s) (hm : most ≤ 60) :
    GoodM Try.prog TT false 59 [mrksV l, scrsV s, .int .i64 most] [] (fun r ov bx => r = .ptr 12 0 ∧ ov = [] ∧ bx = [(12, rflowG 901 902 l s (limF (capF l) most) flw0)]) := by
  have LL : (l.map encM).length = l.length := List.length_map ..
  have LS : (s.map encR).length = s.length := List.length_map ..
  have h16 := hl.len
  have h60 := hs.len
  have e0 : ((s.map encR).length : Int).toNat = s.length := by rw [LS]; simp
  refine good_of_m (fun _ => false) mixed tabOk Try.func59 rfl rfl Try.ntmps59 Try.results59 rfl rfl ?_
  (conv => whnf); (repeat' (first | (refine arith_i ⟨by omega, by omega⟩ ?_; conv => whnf) | (refine arith_u ⟨by omega, by omega⟩ ?_; conv => whnf) | (refine arith_8 ⟨by omega, by omega⟩ ?_; conv => whnf) | (refine need_i (by first | omega | (simp only [List.length_cons, List.length_nil]; omega) | (simp only [List.length_append, List.length_cons, List.length_nil, List.length_map, List.length_replicate, List.length_modify]; omega)) ?_; conv => whnf) | ((with_reducible refine branch_tt ?_); conv => whnf) | ((with_reducible refine branch_ff ?_); conv => whnf) | (with_reducible refine branch_not ?_) | ((with_reducible refine slc_e ?_); conv => whnf) | ((with_reducible refine callS_a ?_); conv => whnf) | ((with_reducible refine bld_a ?_); conv => whnf) | ((with_reducible refine own_e ?_); conv => whnf) | ((with_reducible refine mkmap_b ?_); conv => whnf) | (refine draw_i 10 plGL25h_0 (by decide +kernel) ?_; (conv => whnf); fail_if_success (guard_target =~ False)) | (refine draw_i 10 plGL25h_1 (by decide +kernel) ?_; (conv => whnf); fail_if_success (guard_target =~ False)) | (refine draw_i 14 plGL25h_2 (by decide +kernel) ?_; (conv => whnf); fail_if_success (guard_target =~ False)) | (refine draw_i 14 plGL25h_3 (by decide +kernel) ?_; (conv => whnf); fail_if_success (guard_target =~ False)) | (refine draw_i 14 plGL25h_4 (by decide +kernel) ?_; (conv => whnf); fail_if_success (guard_target =~ False)) | ((with_reducible refine And.intro ?_ ?_) <;> (conv => whnf)) | (with_reducible exact trivial) | ((with_reducible refine branch_d (fun hq => ?_) (fun hq => ?_)) <;> (try (exfalso; omega)) <;> (conv => whnf)) | ((with_reducible refine branch_e (fun hq => ?_) (fun hq => ?_)) <;> (try (exfalso; omega)) <;> (conv => whnf)) | ((with_reducible refine branch_n (fun hq => ?_) (fun hq => ?_)) <;> (try (exfalso; omega)) <;> (conv => whnf)) | ((with_reducible refine branch_i (fun hq => ?_) (fun hq => ?_)) <;> (try (exfalso; omega)) <;> (conv => whnf))))
  refine loop_i (fun i : Nat => i ≤ l.length) (fun i => mkSt [(0, mrksV l), (1, scrsV s), (2, .int .i64 most), (7, .ptr 12 0), (8, .int .i64 i)] [(12, [mrksV l, scrsV s, .mat 901 111 4 1 (rowsM i s.length fun _ _ => false), .own 902 3 1 (nsL i fun _ => 0), .own 903 3 1 (nsL i (limF (capF l) most))])] false) (fun i => l.length - i) 0 (Nat.zero_le _) (Le.trans (le_adoptBox 12 2 901 111 1 rfl rfl) (Le.trans (le_toMatBox 12 2 901 111 4 1 rfl rfl) (Le.trans (le_adoptBox 12 3 902 3 1 rfl rfl) (Le.trans (le_adoptBox 12 4 903 3 1 rfl rfl) (le_mk (by repeat' (first | exact trivial | rfl | apply And.intro)) (by repeat' (first | exact trivial | rfl | apply And.intro)) rfl))))) ?_
  intro i hi
  have L1 : (rowsM i s.length fun _ _ => false).length = i := rowsM_len
  have L2 : (nsL i fun _ => 0).length = i := nsL_len
  have L3 : (nsL i (limF (capF l) most)).length = i := nsL_len
  rcases Nat.lt_or_ge i l.length with hil | hil
  · obtain ⟨m, hm'⟩ : ∃ m, l[i]? = some m := ⟨_, List.getElem?_eq_getElem hil⟩
    have hcap := (hl.all i m hm').cap
    (conv => whnf); (repeat' (first | (refine arith_i ⟨by omega, by omega⟩ ?_; conv => whnf) | (refine arith_u ⟨by omega, by omega⟩ ?_; conv => whnf) | (refine arith_8 ⟨by omega, by omega⟩ ?_; conv => whnf) | (refine need_i (by first | omega | (simp only [List.length_cons, List.length_nil]; omega) | (simp only [List.length_append, List.length_cons, List.length_nil, List.length_map, List.length_replicate, List.length_modify]; omega)) ?_; conv => whnf) | ((with_reducible refine branch_tt ?_); conv => whnf) | ((with_reducible refine branch_ff ?_); conv => whnf) | (with_reducible refine branch_not ?_) | ((refine idx_cs hm' ?_); conv => whnf) | ((refine need_i (by omega) ?_); conv => whnf) | ((refine bld_m ?_); conv => whnf) | ((with_reducible refine slc_e ?_); conv => whnf) | ((with_reducible refine callS_a ?_); conv => whnf) | ((with_reducible refine bld_a ?_); conv => whnf) | ((with_reducible refine own_e ?_); conv => whnf) | ((with_reducible refine mkmap_b ?_); conv => whnf) | (refine draw_i 10 plGL25h_0 (by decide +kernel) ?_; (conv => whnf); fail_if_success (guard_target =~ False)) | (refine draw_i 10 plGL25h_1 (by decide +kernel) ?_; (conv => whnf); fail_if_success (guard_target =~ False)) | (refine draw_i 14 plGL25h_2 (by decide +kernel) ?_; (conv => whnf); fail_if_success (guard_target =~ False)) | (refine draw_i 14 plGL25h_3 (by decide +kernel) ?_; (conv => whnf); fail_if_success (guard_target =~ False)) | (refine draw_i 14 plGL25h_4 (by decide +kernel) ?_; (conv => whnf); fail_if_success (guard_target =~ False)) | ((with_reducible refine And.intro ?_ ?_) <;> (conv => whnf)) | (with_reducible exact trivial) | ((with_reducible refine branch_d (fun hq => ?_) (fun hq => ?_)) <;> (try (exfalso; omega)) <;> (conv => whnf)) | ((with_reducible refine branch_e (fun hq => ?_) (fun hq => ?_)) <;> (try (exfalso; omega)) <;> (conv => whnf)) | ((with_reducible refine branch_n (fun hq => ?_) (fun hq => ?_)) <;> (try (exfalso; omega)) <;> (conv => whnf)) | ((with_reducible refine branch_i (fun hq => ?_) (fun hq => ?_)) <;> (try (exfalso; omega)) <;> (conv => whnf))))
    exact ⟨i + 1, by omega, le_mk ⟨rfl, rfl, rfl, rfl, rfl, trivial⟩ ⟨st_box (by rw [e0, bs_false, rows_next]) (by rw [ns_next]; rfl) (by rw [ns_next, lim_at hm' hcap.1]), trivial⟩ rfl, by omega⟩
  · obtain rfl : i = l.length := by omega
    (conv => whnf); (repeat' (first | (refine arith_i ⟨by omega, by omega⟩ ?_; conv => whnf) | (refine arith_u ⟨by omega, by omega⟩ ?_; conv => whnf) | (refine arith_8 ⟨by omega, by omega⟩ ?_; conv => whnf) | (refine need_i (by first | omega | (simp only [List.length_cons, List.length_nil]; omega) | (simp only [List.length_append, List.length_cons, List.length_nil, List.length_map, List.length_replicate, List.length_modify]; omega)) ?_; conv => whnf) | ((with_reducible refine branch_tt ?_); conv => whnf) | ((with_reducible refine branch_ff ?_); conv => whnf) | (with_reducible refine branch_not ?_) | ((with_reducible refine slc_e ?_); conv => whnf) | ((with_reducible refine callS_a ?_); conv => whnf) | ((with_reducible refine bld_a ?_); conv => whnf) | ((with_reducible refine own_e ?_); conv => whnf) | ((with_reducible refine mkmap_b ?_); conv => whnf) | (refine draw_i 10 plGL25h_0 (by decide +kernel) ?_; (conv => whnf); fail_if_success (guard_target =~ False)) | (refine draw_i 10 plGL25h_1 (by decide +kernel) ?_; (conv => whnf); fail_if_success (guard_target =~ False)) | (refine draw_i 14 plGL25h_2 (by decide +kernel) ?_; (conv => whnf); fail_if_success (guard_target =~ False)) | (refine draw_i 14 plGL25h_3 (by decide +kernel) ?_; (conv => whnf); fail_if_success (guard_target =~ False)) | (refine draw_i 14 plGL25h_4 (by decide +kernel) ?_; (conv => whnf); fail_if_success (guard_target =~ False)) | ((with_reducible refine And.intro ?_ ?_) <;> (conv => whnf)) | (with_reducible exact trivial) | ((with_reducible refine branch_d (fun hq => ?_) (fun hq => ?_)) <;> (try (exfalso; omega)) <;> (conv => whnf)) | ((with_reducible refine branch_e (fun hq => ?_) (fun hq => ?_)) <;> (try (exfalso; omega)) <;> (conv => whnf)) | ((with_reducible refine branch_n (fun hq => ?_) (fun hq => ?_)) <;> (try (exfalso; omega)) <;> (conv => whnf)) | ((with_reducible refine branch_i (fun hq => ?_) (fun hq => ?_)) <;> (try (exfalso; omega)) <;> (conv => whnf))))
    exact retM_i _ [] [(12, rflowG 901 902 l s (limF (capF l) most) flw0)] rfl (Le.trans (le_erase 903) (le_mk (by repeat' (first | exact trivial | rfl | apply And.intro)) (by repeat' (first | exact trivial | rfl | apply And.intro)) rfl)) rfl ⟨rfl, rfl, rfl⟩
theorem call_args {a b : AV} {v v' : List (List AV)} {t e : Nat} (h : v = v') : [a, b, AV.own t e 1 v] ++ [] = [a, b, AV.own t e 1 v'] := by rw [h]; rfl
def RFillR (l : List Mrk) (s : List Scr) (lim : Nat → Nat) (p : Option Nat × Flw) (r : AV) (ov : List (Nat × AV)) (bx : List (Nat × List AV)) : Prop :=
  ov = [] ∧ bx = [(1000, rflowC l s lim p.2)] ∧ ((p.1 = none ∧ r = .tup [.int .i64 0, .bool true]) ∨ ∃ i, p.1 = some i ∧ r = .tup [.int .i64 (i : Nat), .bool false])
set_option maxHeartbeats 4000000 in
theorem rFill_ok (l : List Mrk) (s : List Scr) (lim : Nat → Nat) (hl : MksOk l) (hs : ScsOk s) (hlim : ∀ m, m < l.length → lim m ≤ 1000) (r : Nat) (hr : r ≤ 2) (s0 : Flw) (hw : WF (elF l s) lim s.length l.length s0) :
    GoodM Try.prog TT false 60 [.ptr 1000 0, .int .i64 r] [(1000, rflowC l s lim s0)] (RFillR l s lim (fillF (elF l s) lim s.length l.length r (List.range s.length) s0)) := by
  have LL : (l.map encM).length = l.length := List.length_map ..
  have LS : (s.map encR).length = s.length := List.length_map ..
  have h16 := hl.len
  have h60 := hs.len
  have e0 : ((l.map encM).length : Int).toNat = l.length := by rw [LL]; simp
  refine good_of_m (fun _ => false) mixed tabOk Try.func60 rfl rfl Try.ntmps60 Try.results60 rfl rfl ?_
  (conv => whnf); (repeat' (first | (refine arith_i ⟨by omega, by omega⟩ ?_; conv => whnf) | (refine arith_u ⟨by omega, by omega⟩ ?_; conv => whnf) | (refine arith_8 ⟨by omega, by omega⟩ ?_; conv => whnf) | (refine need_i (by first | omega | (simp only [List.length_cons, List.length_nil]; omega) | (simp only [List.length_append, List.length_cons, List.length_nil, List.length_map, List.length_replicate, List.length_modify]; omega)) ?_; conv => whnf) | ((with_reducible refine branch_tt ?_); conv => whnf) | ((with_reducible refine branch_ff ?_); conv => whnf) | (with_reducible refine branch_not ?_) | ((with_reducible refine slc_e ?_); conv => whnf) | ((with_reducible refine callS_a ?_); conv => whnf) | ((with_reducible refine bld_a ?_); conv => whnf) | ((with_reducible refine own_e ?_); conv => whnf) | ((with_reducible refine mkmap_b ?_); conv => whnf) | ((with_reducible refine branch_d (fun hq => ?_) (fun hq => ?_)) <;> (try (exfalso; omega)) <;> (conv => whnf)) | ((with_reducible refine branch_e (fun hq => ?_) (fun hq => ?_)) <;> (try (exfalso; omega)) <;> (conv => whnf)) | ((with_reducible refine branch_n (fun hq => ?_) (fun hq => ?_)) <;> (try (exfalso; omega)) <;> (conv => whnf)) | ((with_reducible refine branch_i (fun hq => ?_) (fun hq => ?_)) <;> (try (exfalso; omega)) <;> (conv => whnf))))
  refine loop_i2 (fun (i : Nat) (F : Flw) => i ≤ s.length ∧ WF (elF l s) lim s.length l.length F ∧ fillF (elF l s) lim s.length l.length r (List.range s.length) s0 = fillF (elF l s) lim s.length l.length r ((List.range s.length).drop i) F) (fun i F => mkSt [(0, .ptr 1000 0), (1, .int .i64 r), (6, .int .i64 i)] [(1000, rflowC l s lim F)] false) (fun i _ => s.length - i) 0 s0 ⟨Nat.zero_le _, hw, rfl⟩ (le_mk (by repeat' (first | exact trivial | rfl | apply And.intro)) (by repeat' (first | exact trivial | rfl | apply And.intro)) rfl) ?_
  rintro i F ⟨hi, hws, hF⟩
  rcases Nat.lt_or_ge i s.length with hin | hin
  · rw [List.drop_eq_getElem_cons (by simpa using hin), List.getElem_range] at hF
    (conv => whnf); (repeat' (first | (refine arith_i ⟨by omega, by omega⟩ ?_; conv => whnf) | (refine arith_u ⟨by omega, by omega⟩ ?_; conv => whnf) | (refine arith_8 ⟨by omega, by omega⟩ ?_; conv => whnf) | (refine need_i (by first | omega | (simp only [List.length_cons, List.length_nil]; omega) | (simp only [List.length_append, List.length_cons, List.length_nil, List.length_map, List.length_replicate, List.length_modify]; omega)) ?_; conv => whnf) | ((with_reducible refine branch_tt ?_); conv => whnf) | ((with_reducible refine branch_ff ?_); conv => whnf) | (with_reducible refine branch_not ?_) | ((with_reducible refine slc_e ?_); conv => whnf) | ((with_reducible refine callS_a ?_); conv => whnf) | ((with_reducible refine bld_a ?_); conv => whnf) | ((with_reducible refine own_e ?_); conv => whnf) | ((with_reducible refine mkmap_b ?_); conv => whnf) | ((with_reducible refine branch_d (fun hq => ?_) (fun hq => ?_)) <;> (try (exfalso; omega)) <;> (conv => whnf)) | ((with_reducible refine branch_e (fun hq => ?_) (fun hq => ?_)) <;> (try (exfalso; omega)) <;> (conv => whnf)) | ((with_reducible refine branch_n (fun hq => ?_) (fun hq => ?_)) <;> (try (exfalso; omega)) <;> (conv => whnf)) | ((with_reducible refine branch_i (fun hq => ?_) (fun hq => ?_)) <;> (try (exfalso; omega)) <;> (conv => whnf))))
    refine loop_i2 (fun (q : Nat) (s' : Flw) => q ≤ r ∧ WF (elF l s) lim s.length l.length s' ∧ roundsF (elF l s) lim s.length l.length i r F = roundsF (elF l s) lim s.length l.length i (r - q) s') (fun q s' => mkSt [(0, .ptr 1000 0), (1, .int .i64 r), (6, .int .i64 i), (7, .int .i64 q)] [(1000, rflowC l s lim s')] false) (fun q _ => r - q) 0 F ⟨Nat.zero_le _, hws, rfl⟩ (le_mk (by repeat' (first | exact trivial | rfl | apply And.intro)) (by repeat' (first | exact trivial | rfl | apply And.intro)) rfl) ?_
    rintro q s' ⟨hq1, hw', hR⟩
    rcases Nat.lt_or_ge q r with hqr | hqr
    · rw [show r - q = (r - (q + 1)) + 1 by omega] at hR
      have hG := give_ok l s lim hl hs hlim l.length i ⟨s'.A, s'.ld, fun _ => false⟩ hin (Nat.le_of_eq (unv_none fun _ => rfl)) hw'.lim
      (conv => whnf); (repeat' (first | (refine arith_i ⟨by omega, by omega⟩ ?_; conv => whnf) | (refine arith_u ⟨by omega, by omega⟩ ?_; conv => whnf) | (refine arith_8 ⟨by omega, by omega⟩ ?_; conv => whnf) | (refine need_i (by first | omega | (simp only [List.length_cons, List.length_nil]; omega) | (simp only [List.length_append, List.length_cons, List.length_nil, List.length_map, List.length_replicate, List.length_modify]; omega)) ?_; conv => whnf) | ((with_reducible refine branch_tt ?_); conv => whnf) | ((with_reducible refine branch_ff ?_); conv => whnf) | (with_reducible refine branch_not ?_) | ((refine need_i (by omega) ?_); conv => whnf) | ((refine mcall_e [(1000, 1000)] [(1101, 1101), (1102, 1102), (1104, 29)] hG rfl (call_args (by rw [e0, bs_false])) rfl ⟨⟨_, rfl, rfl, rfl⟩, trivial⟩ rfl ?_); conv => whnf) | ((with_reducible refine slc_e ?_); conv => whnf) | ((with_reducible refine callS_a ?_); conv => whnf) | ((with_reducible refine bld_a ?_); conv => whnf) | ((with_reducible refine own_e ?_); conv => whnf) | ((with_reducible refine mkmap_b ?_); conv => whnf) | ((with_reducible refine branch_d (fun hq => ?_) (fun hq => ?_)) <;> (try (exfalso; omega)) <;> (conv => whnf)) | ((with_reducible refine branch_e (fun hq => ?_) (fun hq => ?_)) <;> (try (exfalso; omega)) <;> (conv => whnf)) | ((with_reducible refine branch_n (fun hq => ?_) (fun hq => ?_)) <;> (try (exfalso; omega)) <;> (conv => whnf)) | ((with_reducible refine branch_i (fun hq => ?_) (fun hq => ?_)) <;> (try (exfalso; omega)) <;> (conv => whnf))))
      · have e : augF (elF l s) lim s.length l.length i s' = (true, (augF (elF l s) lim s.length l.length i s').2) := Prod.ext hq rfl
        rw [rounds_yes (show (augF (elF l s) lim s.length l.length i s').1 = true from hq)] at hR
        exact ⟨q + 1, (augF (elF l s) lim s.length l.length i s').2, ⟨by omega, (aug_won hin hw' e).1, hR⟩, (le_mk (by repeat' (first | exact trivial | rfl | apply And.intro)) (by repeat' (first | exact trivial | rfl | apply And.intro)) rfl), by omega⟩
      · rw [rounds_no (show (augF (elF l s) lim s.length l.length i s').1 = false from hq)] at hR
        have e : fillF (elF l s) lim s.length l.length r (List.range s.length) s0 = (some i, (augF (elF l s) lim s.length l.length i s').2) := by rw [hF, fillF, hR]
        exact retM_i _ [] [(1000, rflowC l s lim (augF (elF l s) lim s.length l.length i s').2)] rfl (le_mk (by repeat' (first | exact trivial | rfl | apply And.intro)) (by repeat' (first | exact trivial | rfl | apply And.intro)) rfl) rfl ⟨rfl, by rw [e], .inr ⟨i, by rw [e], rfl⟩⟩
    · rw [show r - q = 0 by omega, roundsF] at hR
      (conv => whnf); (repeat' (first | (refine arith_i ⟨by omega, by omega⟩ ?_; conv => whnf) | (refine arith_u ⟨by omega, by omega⟩ ?_; conv => whnf) | (refine arith_8 ⟨by omega, by omega⟩ ?_; conv => whnf) | (refine need_i (by first | omega | (simp only [List.length_cons, List.length_nil]; omega) | (simp only [List.length_append, List.length_cons, List.length_nil, List.length_map, List.length_replicate, List.length_modify]; omega)) ?_; conv => whnf) | ((with_reducible refine branch_tt ?_); conv => whnf) | ((with_reducible refine branch_ff ?_); conv => whnf) | (with_reducible refine branch_not ?_) | ((with_reducible refine slc_e ?_); conv => whnf) | ((with_reducible refine callS_a ?_); conv => whnf) | ((with_reducible refine bld_a ?_); conv => whnf) | ((with_reducible refine own_e ?_); conv => whnf) | ((with_reducible refine mkmap_b ?_); conv => whnf) | ((with_reducible refine branch_d (fun hq => ?_) (fun hq => ?_)) <;> (try (exfalso; omega)) <;> (conv => whnf)) | ((with_reducible refine branch_e (fun hq => ?_) (fun hq => ?_)) <;> (try (exfalso; omega)) <;> (conv => whnf)) | ((with_reducible refine branch_n (fun hq => ?_) (fun hq => ?_)) <;> (try (exfalso; omega)) <;> (conv => whnf)) | ((with_reducible refine branch_i (fun hq => ?_) (fun hq => ?_)) <;> (try (exfalso; omega)) <;> (conv => whnf))))
      exact ⟨i + 1, s', ⟨by omega, hw', by rw [hF, fillF, hR]⟩, (le_mk (by repeat' (first | exact trivial | rfl | apply And.intro)) (by repeat' (first | exact trivial | rfl | apply And.intro)) rfl), by omega⟩
  · rw [List.drop_eq_nil_of_le (by simpa using hin), fillF] at hF
    (conv => whnf); (repeat' (first | (refine arith_i ⟨by omega, by omega⟩ ?_; conv => whnf) | (refine arith_u ⟨by omega, by omega⟩ ?_; conv => whnf) | (refine arith_8 ⟨by omega, by omega⟩ ?_; conv => whnf) | (refine need_i (by first | omega | (simp only [List.length_cons, List.length_nil]; omega) | (simp only [List.length_append, List.length_cons, List.length_nil, List.length_map, List.length_replicate, List.length_modify]; omega)) ?_; conv => whnf) | ((with_reducible refine branch_tt ?_); conv => whnf) | ((with_reducible refine branch_ff ?_); conv => whnf) | (with_reducible refine branch_not ?_) | ((with_reducible refine slc_e ?_); conv => whnf) | ((with_reducible refine callS_a ?_); conv => whnf) | ((with_reducible refine bld_a ?_); conv => whnf) | ((with_reducible refine own_e ?_); conv => whnf) | ((with_reducible refine mkmap_b ?_); conv => whnf) | ((with_reducible refine branch_d (fun hq => ?_) (fun hq => ?_)) <;> (try (exfalso; omega)) <;> (conv => whnf)) | ((with_reducible refine branch_e (fun hq => ?_) (fun hq => ?_)) <;> (try (exfalso; omega)) <;> (conv => whnf)) | ((with_reducible refine branch_n (fun hq => ?_) (fun hq => ?_)) <;> (try (exfalso; omega)) <;> (conv => whnf)) | ((with_reducible refine branch_i (fun hq => ?_) (fun hq => ?_)) <;> (try (exfalso; omega)) <;> (conv => whnf))))
    exact retM_i _ [] [(1000, rflowC l s lim F)] rfl (le_mk (by repeat' (first | exact trivial | rfl | apply And.intro)) (by repeat' (first | exact trivial | rfl | apply And.intro)) rfl) rfl ⟨rfl, by rw [hF], .inl ⟨by rw [hF], rfl⟩⟩
end Go.Proofs.Ytpmoflggmdfmnaa
end

/- Layer 25: Least, Allocate, Witness of the reference. -/
section
namespace Go.Proofs.Ytpmoflggmdfmnaa
set_option linter.unusedVariables false
set_option linter.unusedSimpArgs false
set_option linter.unnecessarySimpa false
set_option linter.unusedSectionVars false
set_option maxRecDepth 10000
open Go.RowKit
def plGL25i_0 : Plan := (.take 0 (.take 1 (.take 2 (.take 3 (.take 4 (.take 5 (.take 6 (.take 7 (.take 8 (.take 9 (.take 10 (.take 11 (.alt 12 (.alt 13 (.take 14 .done) .stop) .stop)))))))))))))
def plGL25i_1 : Plan := (.take 0 (.take 1 (.take 2 (.take 3 (.take 4 (.take 6 (.take 7 (.take 8 (.take 9 (.alt 5 (.alt 10 (.take 11 (.alt 12 (.alt 13 (.take 14 .done) .stop) .stop)) .stop) (.alt 10 (.alt 5 (.take 11 (.alt 12 (.alt 13 (.take 14 .done) .stop) .stop)) .stop) .stop)))))))))))
set_option maxHeartbeats 4000000 in
theorem rLeast_ok (l : List Mrk) (s : List Scr) (k : Int) (hl : MksOk l) (hs : ScsOk s) : Good Try.prog TT false 16 [mrksV l, scrsV s, .int .i64 k] (· = .tup [.int .i64 (((lstF l s k).getD 0 : Nat)), .bool (lstF l s k).isSome]) := by
  have h16 := hl.len
  have h60 := hs.len
  cases hk : okK k with
  | false =>
    have e : lstF l s k = none := by rw [lstF, if_neg (by simp [hk])]
    rw [e]
    refine good_of mixed tabOk Try.func16 rfl rfl Try.ntmps16 Try.results16 rfl rfl ?_
    (conv => whnf); (repeat' (first | (refine arith_i ⟨by omega, by omega⟩ ?_; conv => whnf) | (refine arith_u ⟨by omega, by omega⟩ ?_; conv => whnf) | (refine arith_8 ⟨by omega, by omega⟩ ?_; conv => whnf) | (refine need_i (by first | omega | (simp only [List.length_cons, List.length_nil]; omega) | (simp only [List.length_append, List.length_cons, List.length_nil, List.length_map, List.length_replicate, List.length_modify]; omega)) ?_; conv => whnf) | ((with_reducible refine branch_tt ?_); conv => whnf) | ((with_reducible refine branch_ff ?_); conv => whnf) | (with_reducible refine branch_not ?_) | ((refine call_e ((rRight_ok l s k hl hs).mono fun r h => h.trans (bool_eq hk)) ?_); conv => whnf) | ((with_reducible refine slc_e ?_); conv => whnf) | ((with_reducible refine callS_a ?_); conv => whnf) | ((with_reducible refine bld_a ?_); conv => whnf) | ((with_reducible refine own_e ?_); conv => whnf) | ((with_reducible refine mkmap_b ?_); conv => whnf) | ((with_reducible refine branch_d (fun hq => ?_) (fun hq => ?_)) <;> (try (exfalso; omega)) <;> (conv => whnf)) | ((with_reducible refine branch_e (fun hq => ?_) (fun hq => ?_)) <;> (try (exfalso; omega)) <;> (conv => whnf)) | ((with_reducible refine branch_n (fun hq => ?_) (fun hq => ?_)) <;> (try (exfalso; omega)) <;> (conv => whnf)) | ((with_reducible refine branch_i (fun hq => ?_) (fun hq => ?_)) <;> (try (exfalso; omega)) <;> (conv => whnf))))
    exact ret_t (rs := [.int .i64 0, .bool false]) ⟨(rc_p rfl).g, (rc_p rfl).g, trivial⟩ rfl
  | true =>
    obtain ⟨q, rfl, hq1, hq2⟩ := okK_in hk
    have e : lstF l s q = bestF (elF l s) (capF l) s.length l.length q 61 0 := by rw [lstF, if_pos hk, Int.toNat_natCast, ← best_far (c := 61) (by omega)]
    obtain ⟨o, ho⟩ : ∃ o, o = bestF (elF l s) (capF l) s.length l.length q 61 0 := ⟨_, rfl⟩
    rw [e, ← ho]
    refine good_of mixed tabOk Try.func16 rfl rfl Try.ntmps16 Try.results16 rfl rfl ?_
    (conv => whnf); (repeat' (first | (refine arith_i ⟨by omega, by omega⟩ ?_; conv => whnf) | (refine arith_u ⟨by omega, by omega⟩ ?_; conv => whnf) | (refine arith_8 ⟨by omega, by omega⟩ ?_; conv => whnf) | (refine need_i (by first | omega | (simp only [List.length_cons, List.length_nil]; omega) | (simp only [List.length_append, List.length_cons, List.length_nil, List.length_map, List.length_replicate, List.length_modify]; omega)) ?_; conv => whnf) | ((with_reducible refine branch_tt ?_); conv => whnf) | ((with_reducible refine branch_ff ?_); conv => whnf) | (with_reducible refine branch_not ?_) | ((refine call_e ((rRight_ok l s q hl hs).mono fun r h => h.trans (bool_eq hk)) ?_); conv => whnf) | ((with_reducible refine slc_e ?_); conv => whnf) | ((with_reducible refine callS_a ?_); conv => whnf) | ((with_reducible refine bld_a ?_); conv => whnf) | ((with_reducible refine own_e ?_); conv => whnf) | ((with_reducible refine mkmap_b ?_); conv => whnf) | ((with_reducible refine branch_d (fun hq => ?_) (fun hq => ?_)) <;> (try (exfalso; omega)) <;> (conv => whnf)) | ((with_reducible refine branch_e (fun hq => ?_) (fun hq => ?_)) <;> (try (exfalso; omega)) <;> (conv => whnf)) | ((with_reducible refine branch_n (fun hq => ?_) (fun hq => ?_)) <;> (try (exfalso; omega)) <;> (conv => whnf)) | ((with_reducible refine branch_i (fun hq => ?_) (fun hq => ?_)) <;> (try (exfalso; omega)) <;> (conv => whnf))))
    refine loop_i (fun c : Nat => c ≤ 61 ∧ o = bestF (elF l s) (capF l) s.length l.length q (61 - c) c) (fun c => mkSt [(0, mrksV l), (1, scrsV s), (2, .int .i64 q), (8, .int .i64 c)] [] false) (fun c => 61 - c) 0 ⟨by omega, ho⟩ (le_mk (by repeat' (first | exact trivial | rfl | apply And.intro)) (by repeat' (first | exact trivial | rfl | apply And.intro)) rfl) ?_
    rintro c ⟨hc, hF⟩
    rcases Nat.lt_or_ge c 61 with hcl | hcl
    · have hNew := start_ok l s c hl hs (by omega)
      have hlim : ∀ m, m < l.length → limF (capF l) c m ≤ 1000 := fun m hm => by unfold limF; omega
      have hFill := rFill_ok l s (limF (capF l) c) hl hs hlim q hq2 flw0 wf_0
      rw [show 61 - c = (61 - (c + 1)) + 1 by omega, bestF] at hF
      (conv => whnf); (repeat' (first | (refine arith_i ⟨by omega, by omega⟩ ?_; conv => whnf) | (refine arith_u ⟨by omega, by omega⟩ ?_; conv => whnf) | (refine arith_8 ⟨by omega, by omega⟩ ?_; conv => whnf) | (refine need_i (by first | omega | (simp only [List.length_cons, List.length_nil]; omega) | (simp only [List.length_append, List.length_cons, List.length_nil, List.length_map, List.length_replicate, List.length_modify]; omega)) ?_; conv => whnf) | ((with_reducible refine branch_tt ?_); conv => whnf) | ((with_reducible refine branch_ff ?_); conv => whnf) | (with_reducible refine branch_not ?_) | (((refine acall_m ?_; refine rcall_e [] [] [(12, 950)] [(901, 911), (902, 912)] hNew rfl rfl rfl rfl trivial rfl ?_)); conv => whnf) | (((refine rcall_i [(1000, 950)] [(1101, 911), (1102, 912)] [] [] _ Le.refl hFill rfl rfl rfl rfl ⟨⟨_, rfl, rfl, rfl⟩, trivial⟩ ?_; rintro r ov bx' ⟨rfl, rfl, hr⟩; rcases hr with ⟨h1, rfl⟩ | ⟨i, h1, rfl⟩ <;> refine ⟨rfl, ?_⟩ <;> (conv => whnf))); conv => whnf) | ((with_reducible refine slc_e ?_); conv => whnf) | ((with_reducible refine callS_a ?_); conv => whnf) | ((with_reducible refine bld_a ?_); conv => whnf) | ((with_reducible refine own_e ?_); conv => whnf) | ((with_reducible refine mkmap_b ?_); conv => whnf) | ((with_reducible refine branch_d (fun hq => ?_) (fun hq => ?_)) <;> (try (exfalso; omega)) <;> (conv => whnf)) | ((with_reducible refine branch_e (fun hq => ?_) (fun hq => ?_)) <;> (try (exfalso; omega)) <;> (conv => whnf)) | ((with_reducible refine branch_n (fun hq => ?_) (fun hq => ?_)) <;> (try (exfalso; omega)) <;> (conv => whnf)) | ((with_reducible refine branch_i (fun hq => ?_) (fun hq => ?_)) <;> (try (exfalso; omega)) <;> (conv => whnf))))
      · have e2 : okF (elF l s) (capF l) s.length l.length q c = true := by rw [okF, h1]; rfl
        rw [if_pos e2] at hF
        rw [hF]
        exact ret_t (rs := [.int .i64 (c : Nat), .bool true]) ⟨(rc_p rfl).g, (rc_p rfl).g, trivial⟩ rfl
      · have e2 : ¬ okF (elF l s) (capF l) s.length l.length q c = true := by rw [okF, h1]; simp
        rw [if_neg e2] at hF
        exact ⟨c + 1, ⟨by omega, hF⟩, (le_mk (by repeat' (first | exact trivial | rfl | apply And.intro)) (by repeat' (first | exact trivial | rfl | apply And.intro)) rfl), by omega⟩
    · rw [show 61 - c = 0 by omega, bestF] at hF
      rw [hF]
      (conv => whnf); (repeat' (first | (refine arith_i ⟨by omega, by omega⟩ ?_; conv => whnf) | (refine arith_u ⟨by omega, by omega⟩ ?_; conv => whnf) | (refine arith_8 ⟨by omega, by omega⟩ ?_; conv => whnf) | (refine need_i (by first | omega | (simp only [List.length_cons, List.length_nil]; omega) | (simp only [List.length_append, List.length_cons, List.length_nil, List.length_map, List.length_replicate, List.length_modify]; omega)) ?_; conv => whnf) | ((with_reducible refine branch_tt ?_); conv => whnf) | ((with_reducible refine branch_ff ?_); conv => whnf) | (with_reducible refine branch_not ?_) | ((with_reducible refine slc_e ?_); conv => whnf) | ((with_reducible refine callS_a ?_); conv => whnf) | ((with_reducible refine bld_a ?_); conv => whnf) | ((with_reducible refine own_e ?_); conv => whnf) | ((with_reducible refine mkmap_b ?_); conv => whnf) | ((with_reducible refine branch_d (fun hq => ?_) (fun hq => ?_)) <;> (try (exfalso; omega)) <;> (conv => whnf)) | ((with_reducible refine branch_e (fun hq => ?_) (fun hq => ?_)) <;> (try (exfalso; omega)) <;> (conv => whnf)) | ((with_reducible refine branch_n (fun hq => ?_) (fun hq => ?_)) <;> (try (exfalso; omega)) <;> (conv => whnf)) | ((with_reducible refine branch_i (fun hq => ?_) (fun hq => ?_)) <;> (try (exfalso; omega)) <;> (conv => whnf))))
      exact ret_t (rs := [.int .i64 0, .bool false]) ⟨(rc_p rfl).g, (rc_p rfl).g, trivial⟩ rfl
set_option maxHeartbeats 4000000 in
theorem rAllocate_ok (l : List Mrk) (s : List Scr) (k : Int) (hl : MksOk l) (hs : ScsOk s) : Good Try.prog TT false 18 [mrksV l, scrsV s, .int .i64 k] (AllR l s k) := by
  have LL : (l.map encM).length = l.length := List.length_map ..
  have LS : (s.map encR).length = s.length := List.length_map ..
  have h16 := hl.len
  have h60 := hs.len
  have hLe := rLeast_ok l s k hl hs
  cases hk : okK k with
  | false =>
    refine good_of mixed tabOk Try.func18 rfl rfl Try.ntmps18 Try.results18 rfl rfl ?_
    (conv => whnf); (repeat' (first | (refine arith_i ⟨by omega, by omega⟩ ?_; conv => whnf) | (refine arith_u ⟨by omega, by omega⟩ ?_; conv => whnf) | (refine arith_8 ⟨by omega, by omega⟩ ?_; conv => whnf) | (refine need_i (by first | omega | (simp only [List.length_cons, List.length_nil]; omega) | (simp only [List.length_append, List.length_cons, List.length_nil, List.length_map, List.length_replicate, List.length_modify]; omega)) ?_; conv => whnf) | ((with_reducible refine branch_tt ?_); conv => whnf) | ((with_reducible refine branch_ff ?_); conv => whnf) | (with_reducible refine branch_not ?_) | ((refine call_e ((rRight_ok l s k hl hs).mono fun r h => h.trans (bool_eq hk)) ?_); conv => whnf) | ((with_reducible refine slc_e ?_); conv => whnf) | ((with_reducible refine callS_a ?_); conv => whnf) | ((with_reducible refine bld_a ?_); conv => whnf) | ((with_reducible refine own_e ?_); conv => whnf) | ((with_reducible refine mkmap_b ?_); conv => whnf) | (refine draw_i 15 plGL25i_0 (by decide +kernel) ?_; (conv => whnf); fail_if_success (guard_target =~ False)) | (refine draw_i 15 plGL25i_1 (by decide +kernel) ?_; (conv => whnf); fail_if_success (guard_target =~ False)) | ((with_reducible refine And.intro ?_ ?_) <;> (conv => whnf)) | (with_reducible exact trivial) | ((with_reducible refine branch_d (fun hq => ?_) (fun hq => ?_)) <;> (try (exfalso; omega)) <;> (conv => whnf)) | ((with_reducible refine branch_e (fun hq => ?_) (fun hq => ?_)) <;> (try (exfalso; omega)) <;> (conv => whnf)) | ((with_reducible refine branch_n (fun hq => ?_) (fun hq => ?_)) <;> (try (exfalso; omega)) <;> (conv => whnf)) | ((with_reducible refine branch_i (fun hq => ?_) (fun hq => ?_)) <;> (try (exfalso; omega)) <;> (conv => whnf))))
    exact ret_t (rs := [.lst 2 [], .int .i64 1]) ⟨.inl rc_n, (rc_p rfl).g, trivial⟩ (.inl ⟨hk, rfl⟩)
  | true =>
    obtain ⟨q, rfl, hq1, hq2⟩ := okK_in hk
    have e : lstF l s q = leastF (elF l s) (capF l) s.length l.length q := by rw [lstF, if_pos hk, Int.toNat_natCast]
    rw [e] at hLe
    cases h1 : leastF (elF l s) (capF l) s.length l.length q with
    | none =>
      rw [h1] at hLe
      replace hLe : Good Try.prog TT false 16 [mrksV l, scrsV s, .int .i64 q] (· = .tup [.int .i64 (0 : Nat), .bool false]) := hLe
      refine good_of mixed tabOk Try.func18 rfl rfl Try.ntmps18 Try.results18 rfl rfl ?_
      (conv => whnf); (repeat' (first | (refine arith_i ⟨by omega, by omega⟩ ?_; conv => whnf) | (refine arith_u ⟨by omega, by omega⟩ ?_; conv => whnf) | (refine arith_8 ⟨by omega, by omega⟩ ?_; conv => whnf) | (refine need_i (by first | omega | (simp only [List.length_cons, List.length_nil]; omega) | (simp only [List.length_append, List.length_cons, List.length_nil, List.length_map, List.length_replicate, List.length_modify]; omega)) ?_; conv => whnf) | ((with_reducible refine branch_tt ?_); conv => whnf) | ((with_reducible refine branch_ff ?_); conv => whnf) | (with_reducible refine branch_not ?_) | ((refine call_e ((rRight_ok l s q hl hs).mono fun r h => h.trans (bool_eq hk)) ?_); conv => whnf) | ((refine call_e hLe ?_); conv => whnf) | ((with_reducible refine slc_e ?_); conv => whnf) | ((with_reducible refine callS_a ?_); conv => whnf) | ((with_reducible refine bld_a ?_); conv => whnf) | ((with_reducible refine own_e ?_); conv => whnf) | ((with_reducible refine mkmap_b ?_); conv => whnf) | (refine draw_i 15 plGL25i_0 (by decide +kernel) ?_; (conv => whnf); fail_if_success (guard_target =~ False)) | (refine draw_i 15 plGL25i_1 (by decide +kernel) ?_; (conv => whnf); fail_if_success (guard_target =~ False)) | ((with_reducible refine And.intro ?_ ?_) <;> (conv => whnf)) | (with_reducible exact trivial) | ((with_reducible refine branch_d (fun hq => ?_) (fun hq => ?_)) <;> (try (exfalso; omega)) <;> (conv => whnf)) | ((with_reducible refine branch_e (fun hq => ?_) (fun hq => ?_)) <;> (try (exfalso; omega)) <;> (conv => whnf)) | ((with_reducible refine branch_n (fun hq => ?_) (fun hq => ?_)) <;> (try (exfalso; omega)) <;> (conv => whnf)) | ((with_reducible refine branch_i (fun hq => ?_) (fun hq => ?_)) <;> (try (exfalso; omega)) <;> (conv => whnf))))
      exact ret_t (rs := [.lst 2 [], .int .i64 41]) ⟨.inl rc_n, (rc_p rfl).g, trivial⟩ (.inr (.inl ⟨hk, e.trans h1, rfl⟩))
    | some a =>
      rw [h1] at hLe
      replace hLe : Good Try.prog TT false 16 [mrksV l, scrsV s, .int .i64 q] (· = .tup [.int .i64 (a : Nat), .bool true]) := hLe
      have ha := least_le h1
      have hNew := start_ok l s a hl hs (by omega)
      have hlim : ∀ m, m < l.length → limF (capF l) a m ≤ 1000 := fun m hm => by unfold limF; omega
      have hFill := rFill_ok l s (limF (capF l) a) hl hs hlim q hq2 flw0 wf_0
      have hok : (fillF (elF l s) (limF (capF l) a) s.length l.length q (List.range s.length) flw0).1 = none := by
        have := (least_iff.1 h1).1
        rw [okF, Option.isNone_iff_eq_none] at this
        exact this
      generalize hp : fillF (elF l s) (limF (capF l) a) s.length l.length q (List.range s.length) flw0 = p at hFill hok
      obtain ⟨o, s'⟩ := p
      obtain rfl : o = none := hok
      have hU : Upto (elF l s) (limF (capF l) a) s.length l.length q s.length s' := fill_won (k := 0) rfl (Nat.zero_le _) upto_0 hp
      refine good_of mixed tabOk Try.func18 rfl rfl Try.ntmps18 Try.results18 rfl rfl ?_
      (conv => whnf); (repeat' (first | (refine arith_i ⟨by omega, by omega⟩ ?_; conv => whnf) | (refine arith_u ⟨by omega, by omega⟩ ?_; conv => whnf) | (refine arith_8 ⟨by omega, by omega⟩ ?_; conv => whnf) | (refine need_i (by first | omega | (simp only [List.length_cons, List.length_nil]; omega) | (simp only [List.length_append, List.length_cons, List.length_nil, List.length_map, List.length_replicate, List.length_modify]; omega)) ?_; conv => whnf) | ((with_reducible refine branch_tt ?_); conv => whnf) | ((with_reducible refine branch_ff ?_); conv => whnf) | (with_reducible refine branch_not ?_) | ((refine call_e ((rRight_ok l s q hl hs).mono fun r h => h.trans (bool_eq hk)) ?_); conv => whnf) | ((refine call_e hLe ?_); conv => whnf) | (((refine acall_m ?_; refine rcall_e [] [] [(12, 950)] [(901, 911), (902, 912)] hNew rfl rfl rfl rfl trivial rfl ?_)); conv => whnf) | (((refine rcall_i [(1000, 950)] [(1101, 911), (1102, 912)] [] [] _ Le.refl hFill rfl rfl rfl rfl ⟨⟨_, rfl, rfl, rfl⟩, trivial⟩ ?_; rintro r ov bx' ⟨rfl, rfl, hr⟩; rcases hr with ⟨h1', rfl⟩ | ⟨i, h1', rfl⟩ <;> refine ⟨rfl, ?_⟩ <;> (conv => whnf))); conv => whnf) | ((with_reducible refine slc_e ?_); conv => whnf) | ((with_reducible refine callS_a ?_); conv => whnf) | ((with_reducible refine bld_a ?_); conv => whnf) | ((with_reducible refine own_e ?_); conv => whnf) | ((with_reducible refine mkmap_b ?_); conv => whnf) | (refine draw_i 15 plGL25i_0 (by decide +kernel) ?_; (conv => whnf); fail_if_success (guard_target =~ False)) | (refine draw_i 15 plGL25i_1 (by decide +kernel) ?_; (conv => whnf); fail_if_success (guard_target =~ False)) | ((with_reducible refine And.intro ?_ ?_) <;> (conv => whnf)) | (with_reducible exact trivial) | ((with_reducible refine branch_d (fun hq => ?_) (fun hq => ?_)) <;> (try (exfalso; omega)) <;> (conv => whnf)) | ((with_reducible refine branch_e (fun hq => ?_) (fun hq => ?_)) <;> (try (exfalso; omega)) <;> (conv => whnf)) | ((with_reducible refine branch_n (fun hq => ?_) (fun hq => ?_)) <;> (try (exfalso; omega)) <;> (conv => whnf)) | ((with_reducible refine branch_i (fun hq => ?_) (fun hq => ?_)) <;> (try (exfalso; omega)) <;> (conv => whnf))))
      all_goals try (exfalso; cases h1'; done)
      have LM : (rowsC s.length l.length s'.A).length = l.length := rowsC_len
      refine loop_i (fun i : Nat => i ≤ s.length) (fun i => mkSt [(0, mrksV l), (1, scrsV s), (10, .ptr 950 0), (11, .own 920 47 2 ((tasksT l s s'.A i).map encT)), (12, .int .i64 i)] [(950, rflowG 911 912 l s (limF (capF l) a) s')] false) (fun i => s.length - i) 0 (Nat.zero_le _) (Le.trans (le_adopt 11 920 47 2 rfl) (le_mk (by repeat' (first | exact trivial | rfl | apply And.intro)) (by repeat' (first | exact trivial | rfl | apply And.intro)) rfl)) ?_
      intro i hi
      have LT := tasksT_len (l := l) (s := s) (A := s'.A) (n := i)
      have LT2 : ((tasksT l s s'.A i).map encT).length = (tasksT l s s'.A i).length := List.length_map ..
      have hb : i * l.length ≤ 60 * 16 := Nat.mul_le_mul (by omega) h16
      rcases Nat.lt_or_ge i s.length with hil | hil
      · obtain ⟨x, hx⟩ : ∃ x, s[i]? = some x := ⟨_, List.getElem?_eq_getElem hil⟩
        (conv => whnf); (repeat' (first | (refine arith_i ⟨by omega, by omega⟩ ?_; conv => whnf) | (refine arith_u ⟨by omega, by omega⟩ ?_; conv => whnf) | (refine arith_8 ⟨by omega, by omega⟩ ?_; conv => whnf) | (refine need_i (by first | omega | (simp only [List.length_cons, List.length_nil]; omega) | (simp only [List.length_append, List.length_cons, List.length_nil, List.length_map, List.length_replicate, List.length_modify]; omega)) ?_; conv => whnf) | ((with_reducible refine branch_tt ?_); conv => whnf) | ((with_reducible refine branch_ff ?_); conv => whnf) | (with_reducible refine branch_not ?_) | ((with_reducible refine slc_e ?_); conv => whnf) | ((with_reducible refine callS_a ?_); conv => whnf) | ((with_reducible refine bld_a ?_); conv => whnf) | ((with_reducible refine own_e ?_); conv => whnf) | ((with_reducible refine mkmap_b ?_); conv => whnf) | (refine draw_i 15 plGL25i_0 (by decide +kernel) ?_; (conv => whnf); fail_if_success (guard_target =~ False)) | (refine draw_i 15 plGL25i_1 (by decide +kernel) ?_; (conv => whnf); fail_if_success (guard_target =~ False)) | ((with_reducible refine And.intro ?_ ?_) <;> (conv => whnf)) | (with_reducible exact trivial) | ((with_reducible refine branch_d (fun hq => ?_) (fun hq => ?_)) <;> (try (exfalso; omega)) <;> (conv => whnf)) | ((with_reducible refine branch_e (fun hq => ?_) (fun hq => ?_)) <;> (try (exfalso; omega)) <;> (conv => whnf)) | ((with_reducible refine branch_n (fun hq => ?_) (fun hq => ?_)) <;> (try (exfalso; omega)) <;> (conv => whnf)) | ((with_reducible refine branch_i (fun hq => ?_) (fun hq => ?_)) <;> (try (exfalso; omega)) <;> (conv => whnf))))
        refine loop_i (fun m : Nat => m ≤ l.length) (fun m => mkSt [(0, mrksV l), (1, scrsV s), (10, .ptr 950 0), (11, .own 920 47 2 ((tasksT l s s'.A i ++ rowT l s s'.A i m).map encT)), (12, .int .i64 i), (13, .int .i64 m)] [(950, rflowG 911 912 l s (limF (capF l) a) s')] false) (fun m => l.length - m) 0 (Nat.zero_le _) (by rw [show rowT l s s'.A i 0 = [] from rfl, List.append_nil]; exact (le_mk (by repeat' (first | exact trivial | rfl | apply And.intro)) (by repeat' (first | exact trivial | rfl | apply And.intro)) rfl)) ?_
        intro m hm
        have LR := rowT_len (l := l) (s := s) (A := s'.A) (i := i) (k := m)
        have LR2 : ((tasksT l s s'.A i ++ rowT l s s'.A i m).map encT).length = (tasksT l s s'.A i).length + (rowT l s s'.A i m).length := by simp
        rcases Nat.lt_or_ge m l.length with hml | hml
        · obtain ⟨y, hy⟩ : ∃ y, l[m]? = some y := ⟨_, List.getElem?_eq_getElem hml⟩
          (conv => whnf); (repeat' (first | (refine arith_i ⟨by omega, by omega⟩ ?_; conv => whnf) | (refine arith_u ⟨by omega, by omega⟩ ?_; conv => whnf) | (refine arith_8 ⟨by omega, by omega⟩ ?_; conv => whnf) | (refine need_i (by first | omega | (simp only [List.length_cons, List.length_nil]; omega) | (simp only [List.length_append, List.length_cons, List.length_nil, List.length_map, List.length_replicate, List.length_modify]; omega)) ?_; conv => whnf) | ((with_reducible refine branch_tt ?_); conv => whnf) | ((with_reducible refine branch_ff ?_); conv => whnf) | (with_reducible refine branch_not ?_) | ((refine idx_cs hy ?_); conv => whnf) | ((refine idx_cs hx ?_); conv => whnf) | ((refine ridx_f (m := m) rfl (by omega) ?_); conv => whnf) | ((refine idx_f (m := i) rfl (by omega) ?_); conv => whnf) | ((with_reducible refine slc_e ?_); conv => whnf) | ((with_reducible refine callS_a ?_); conv => whnf) | ((with_reducible refine bld_a ?_); conv => whnf) | ((with_reducible refine own_e ?_); conv => whnf) | ((with_reducible refine mkmap_b ?_); conv => whnf) | (refine draw_i 15 plGL25i_0 (by decide +kernel) ?_; (conv => whnf); fail_if_success (guard_target =~ False)) | (refine draw_i 15 plGL25i_1 (by decide +kernel) ?_; (conv => whnf); fail_if_success (guard_target =~ False)) | ((with_reducible refine And.intro ?_ ?_) <;> (conv => whnf)) | (with_reducible exact trivial) | ((with_reducible refine branch_d (fun hq => ?_) (fun hq => ?_)) <;> (try (exfalso; omega)) <;> (conv => whnf)) | ((with_reducible refine branch_e (fun hq => ?_) (fun hq => ?_)) <;> (try (exfalso; omega)) <;> (conv => whnf)) | ((with_reducible refine branch_n (fun hq => ?_) (fun hq => ?_)) <;> (try (exfalso; omega)) <;> (conv => whnf)) | ((with_reducible refine branch_i (fun hq => ?_) (fun hq => ?_)) <;> (try (exfalso; omega)) <;> (conv => whnf))))
          · have e1 : (tasksT l s s'.A i ++ rowT l s s'.A i (m + 1)).map encT = (tasksT l s s'.A i ++ rowT l s s'.A i m).map encT ++ [[.int .i64 x.number, .int .i64 y.id]] := by
              rw [rowT_next, if_pos hq, ← List.append_assoc, List.map_append, numF_at hx, idF_at hy]; rfl
            exact ⟨m + 1, by omega, by rw [e1]; exact (le_mk (by repeat' (first | exact trivial | rfl | apply And.intro)) (by repeat' (first | exact trivial | rfl | apply And.intro)) rfl), by omega⟩
          · have e1 : rowT l s s'.A i (m + 1) = rowT l s s'.A i m := by rw [rowT_next, if_neg (by simp [hq]), List.append_nil]
            exact ⟨m + 1, by omega, by rw [e1]; exact (le_mk (by repeat' (first | exact trivial | rfl | apply And.intro)) (by repeat' (first | exact trivial | rfl | apply And.intro)) rfl), by omega⟩
        · (conv => whnf); (repeat' (first | (refine arith_i ⟨by omega, by omega⟩ ?_; conv => whnf) | (refine arith_u ⟨by omega, by omega⟩ ?_; conv => whnf) | (refine arith_8 ⟨by omega, by omega⟩ ?_; conv => whnf) | (refine need_i (by first | omega | (simp only [List.length_cons, List.length_nil]; omega) | (simp only [List.length_append, List.length_cons, List.length_nil, List.length_map, List.length_replicate, List.length_modify]; omega)) ?_; conv => whnf) | ((with_reducible refine branch_tt ?_); conv => whnf) | ((with_reducible refine branch_ff ?_); conv => whnf) | (with_reducible refine branch_not ?_) | ((with_reducible refine slc_e ?_); conv => whnf) | ((with_reducible refine callS_a ?_); conv => whnf) | ((with_reducible refine bld_a ?_); conv => whnf) | ((with_reducible refine own_e ?_); conv => whnf) | ((with_reducible refine mkmap_b ?_); conv => whnf) | (refine draw_i 15 plGL25i_0 (by decide +kernel) ?_; (conv => whnf); fail_if_success (guard_target =~ False)) | (refine draw_i 15 plGL25i_1 (by decide +kernel) ?_; (conv => whnf); fail_if_success (guard_target =~ False)) | ((with_reducible refine And.intro ?_ ?_) <;> (conv => whnf)) | (with_reducible exact trivial) | ((with_reducible refine branch_d (fun hq => ?_) (fun hq => ?_)) <;> (try (exfalso; omega)) <;> (conv => whnf)) | ((with_reducible refine branch_e (fun hq => ?_) (fun hq => ?_)) <;> (try (exfalso; omega)) <;> (conv => whnf)) | ((with_reducible refine branch_n (fun hq => ?_) (fun hq => ?_)) <;> (try (exfalso; omega)) <;> (conv => whnf)) | ((with_reducible refine branch_i (fun hq => ?_) (fun hq => ?_)) <;> (try (exfalso; omega)) <;> (conv => whnf))))
          obtain rfl : m = l.length := by omega
          exact ⟨i + 1, by omega, by rw [tasksT_next]; exact (le_mk (by repeat' (first | exact trivial | rfl | apply And.intro)) (by repeat' (first | exact trivial | rfl | apply And.intro)) rfl), by omega⟩
      · (conv => whnf); (repeat' (first | (refine arith_i ⟨by omega, by omega⟩ ?_; conv => whnf) | (refine arith_u ⟨by omega, by omega⟩ ?_; conv => whnf) | (refine arith_8 ⟨by omega, by omega⟩ ?_; conv => whnf) | (refine need_i (by first | omega | (simp only [List.length_cons, List.length_nil]; omega) | (simp only [List.length_append, List.length_cons, List.length_nil, List.length_map, List.length_replicate, List.length_modify]; omega)) ?_; conv => whnf) | ((with_reducible refine branch_tt ?_); conv => whnf) | ((with_reducible refine branch_ff ?_); conv => whnf) | (with_reducible refine branch_not ?_) | ((with_reducible refine slc_e ?_); conv => whnf) | ((with_reducible refine callS_a ?_); conv => whnf) | ((with_reducible refine bld_a ?_); conv => whnf) | ((with_reducible refine own_e ?_); conv => whnf) | ((with_reducible refine mkmap_b ?_); conv => whnf) | (refine draw_i 15 plGL25i_0 (by decide +kernel) ?_; (conv => whnf); fail_if_success (guard_target =~ False)) | (refine draw_i 15 plGL25i_1 (by decide +kernel) ?_; (conv => whnf); fail_if_success (guard_target =~ False)) | ((with_reducible refine And.intro ?_ ?_) <;> (conv => whnf)) | (with_reducible exact trivial) | ((with_reducible refine branch_d (fun hq => ?_) (fun hq => ?_)) <;> (try (exfalso; omega)) <;> (conv => whnf)) | ((with_reducible refine branch_e (fun hq => ?_) (fun hq => ?_)) <;> (try (exfalso; omega)) <;> (conv => whnf)) | ((with_reducible refine branch_n (fun hq => ?_) (fun hq => ?_)) <;> (try (exfalso; omega)) <;> (conv => whnf)) | ((with_reducible refine branch_i (fun hq => ?_) (fun hq => ?_)) <;> (try (exfalso; omega)) <;> (conv => whnf))))
        obtain rfl : i = s.length := by omega
        exact ret_t (rs := [.lst 2 ((tasksT l s s'.A s.length).map encT), .int .i64 0]) ⟨.inl rc_o, (rc_p rfl).g, trivial⟩ (.inr (.inr ⟨a, s', hk, e.trans h1, by rw [Int.toNat_natCast]; exact hU, rfl⟩))
end Go.Proofs.Ytpmoflggmdfmnaa
end

/- Layer 26, plainly: who wrote a script is not seen. -/
section
namespace Go.Proofs.Ytpmoflggmdfmnaa
set_option linter.unusedVariables false
set_option linter.unusedSimpArgs false
set_option linter.unnecessarySimpa false
set_option linter.unusedSectionVars false
set_option maxRecDepth 10000
open Go.RowKit
theorem all_any {l : List Mrk} {s : List Scr} {k : Int} {r : AV} (hl : MksOk l) (hs : ScsOk s) (h : AllR l s k r) : ∃ ts e, r = .tup [tasksV ts, .int .i64 e] ∧ ts.length ≤ 960 ∧ ∀ (k : Nat) (t : Int × Int), ts[k]? = some t → 0 ≤ t.1 ∧ t.1 ≤ 1000000 := by
  rcases h with ⟨-, h⟩ | ⟨-, -, h⟩ | ⟨a, F, -, -, -, h⟩
  · exact ⟨[], _, h, by simp, fun k t hk => by simp at hk⟩
  · exact ⟨[], _, h, by simp, fun k t hk => by simp at hk⟩
  · refine ⟨_, _, h, ?_, fun k t hk => ?_⟩
    rotate_left
    · obtain ⟨p, m, h1, h2, rfl, h4⟩ := tasksT_mem t (List.mem_of_getElem? hk)
      obtain ⟨x, hx⟩ : ∃ x, s[p]? = some x := ⟨_, List.getElem?_eq_getElem h1⟩
      have g := (hs.all p x hx).1
      have g1 := g.paper
      have g2 := g.cand
      have g3 := g.number
      simp only [papB, Bool.and_eq_true, decide_eq_true_eq] at g1
      simp only [numF_at hx]; omega
    have h1 := tasksT_len (l := l) (s := s) (A := F.A) (n := s.length)
    have := Nat.mul_le_mul hs.len hl.len
    omega
theorem bool_iff {a b : Bool} (h : a = true ↔ b = true) : a = b := by cases a <;> cases b <;> simp_all
theorem scrN_at {s : List Scr} (hs : ScsOk s) {x : Scr} (hx : x ∈ s) : scrN s x.number = x := by
  obtain ⟨p, hp⟩ := List.getElem?_of_mem hx
  have := findS_num hs.asc (List.getElem?_eq_some_iff.1 hp).1
  rw [numF_at hp] at this
  unfold scrN
  rw [this]
  simp only [hp, Option.getD_some]
end Go.Proofs.Ytpmoflggmdfmnaa
end
