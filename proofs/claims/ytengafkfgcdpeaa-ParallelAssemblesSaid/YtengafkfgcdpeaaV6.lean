/- Several texts in one: GL11h, GL11n, GL11e, GL11m, GL11g, GL11i, GL11j, GL11k, GL11r. -/
import Derived.Test.YtengafkfgcdpeaaV5
import Derived.Test.YtengafkfgcdpeaaV4
import Derived.Test.YtengafkfgcdpeaaV3
/- Layer 11, plainly: what Assemble goes through. -/
section
namespace Go.Proofs.Ytengafkfgcdpeaa
set_option linter.unusedVariables false
set_option linter.unusedSimpArgs false
set_option linter.unnecessarySimpa false
set_option linter.unusedSectionVars false
set_option maxRecDepth 10000
open Go.RowKit
def flagsU (n : Nat) (us : List Int) : List Bool := (List.range n).map fun i : Nat => hasB us (i : Int)
def encBl (b : Bool) : List AV := [.bool b]
theorem flagsU_len {n : Nat} {us : List Int} : (flagsU n us).length = n := by simp [flagsU]
theorem flagsU_at {n i : Nat} {us : List Int} (h : i < n) : (flagsU n us)[i]? = some (hasB us (i : Int)) := by simp [flagsU, h]
theorem flagsU_set {n : Nat} {us : List Int} {c : Int} (hc : 0 ≤ c ∧ c < n) : (flagsU n us).set c.toNat true = flagsU n (us ++ [c]) := by
  refine List.ext_getElem? fun i => ?_
  rw [List.getElem?_set, flagsU_len]
  rcases Nat.lt_or_ge i n with h | h
  · rw [flagsU_at h, flagsU_at h]
    by_cases e : c.toNat = i
    · have hm : hasB (us ++ [c]) (i : Int) = true := hasB_iff.2 (List.mem_append.2 (.inr (by simp; omega)))
      rw [if_pos e, if_pos (by omega), hm]
    · rw [if_neg e]
      have hm : hasB (us ++ [c]) (i : Int) = hasB us (i : Int) := by
        rw [Bool.eq_iff_iff, hasB_iff, hasB_iff, List.mem_append]
        exact ⟨fun h => h.elim id fun h => by simp at h; omega, .inl⟩
      rw [hm]
  · rw [List.getElem?_eq_none (by rw [flagsU_len]; omega), List.getElem?_eq_none (by rw [flagsU_len]; omega)]
    split
    · rw [if_neg (by omega)]
    · rfl
theorem flagsU_used {n : Nat} {us : List Int} : flagsU n (usedL n us) = flagsU n us := by
  unfold flagsU
  refine List.map_congr_left fun i hi => ?_
  rw [Bool.eq_iff_iff, hasB_iff, hasB_iff, usedL_mem]
  exact ⟨fun h => h.1, fun h => ⟨h, by omega, by have := List.mem_range.1 hi; omega⟩⟩
theorem flagsU_nil {n : Nat} : flagsU n [] = List.replicate n false := by
  refine List.ext_getElem? fun i => ?_
  rw [List.getElem?_replicate]
  split
  · next h => rw [flagsU_at h]; rfl
  · next h => rw [List.getElem?_eq_none (by rw [flagsU_len]; omega)]
theorem usedL_self {n : Nat} {us : List Int} (h : Asc 0 n us) : usedL n us = us :=
  asc_ext (lo := 0) (hi := n) usedL_asc h fun x => by
    rw [usedL_mem]
    exact ⟨fun hx => hx.1, fun hx => ⟨hx, by have := h.2 x hx; omega⟩⟩
theorem usedL_next {i : Nat} {us : List Int} : usedL (i + 1) us = usedL i us ++ (if hasB us (i : Int) = true then [(i : Int)] else []) := by
  unfold usedL
  rw [List.range_succ, List.filter_append, List.map_append]
  congr 1
  by_cases h : hasB us (i : Int) = true
  · simp [h]
  · simp [h]
theorem usedL_len {i : Nat} {us : List Int} : (usedL i us).length ≤ i := by
  unfold usedL
  rw [List.length_map]
  exact Nat.le_trans (List.length_filter_le ..) (by simp)
/-- The used options before each variant. -/
def usN (P : Prog) (an : List Int) : Nat → List Int
  | 0 => []
  | i + 1 => nextU P an (usN P an i)
theorem usN_asc {P : Prog} {an : List Int} : ∀ {i : Nat}, Asc 0 P.costs.length (usN P an i)
  | 0 => ⟨List.Pairwise.nil, by simp [usN]⟩
  | i + 1 => usedL_asc
def GoodU (P : Prog) (an : List Int) (j : Nat) : Prop := resE P an (usN P an j) = 0 ∧ (bestR P an (usN P an j)).1 = true
theorem asmF_run {P : Prog} {an : List Int} : ∀ (m i : Nat), ((∀ j, i ≤ j → j < i + m → GoodU P an j) ∧ ∀ wn acc, asmF P an wn m (usN P an i) acc = (acc ++ (List.range m).map (fun j => planR P an (usN P an (i + j)) wn), 0)) ∨ ∃ e : Int, e ≠ 0 ∧ ∀ wn acc, asmF P an wn m (usN P an i) acc = ([], e)
  | 0, i => .inl ⟨fun j h1 h2 => by omega, fun wn acc => by simp [asmF]⟩
  | m + 1, i => by
    by_cases h1 : resE P an (usN P an i) ≠ 0
    · exact .inr ⟨_, h1, fun wn acc => by rw [asmF, if_pos h1]⟩
    · by_cases h2 : (bestR P an (usN P an i)).1 = false
      · exact .inr ⟨10, by omega, fun wn acc => by rw [asmF, if_neg h1, if_pos h2]⟩
      · have hg : GoodU P an i := ⟨by omega, by simpa using h2⟩
        rcases asmF_run (P := P) (an := an) m (i + 1) with ⟨k1, k2⟩ | ⟨e, k1, k2⟩
        · refine .inl ⟨fun j h3 h4 => ?_, fun wn acc => ?_⟩
          · by_cases e : j = i
            · subst e; exact hg
            · exact k1 j (by omega) (by omega)
          · rw [asmF, if_neg h1, if_neg h2, show nextU P an (usN P an i) = usN P an (i + 1) from rfl, k2, List.range_succ_eq_map, List.map_cons, List.map_map, List.append_assoc]
            refine congrArg (fun x => (acc ++ x, (0 : Int))) ?_
            rw [List.singleton_append]
            refine congrArg (planR P an (usN P an (i + 0)) wn :: ·) (List.map_congr_left fun j _ => ?_)
            rw [Function.comp, show i + 1 + j = i + (j + 1) by omega]
        · exact .inr ⟨e, k1, fun wn acc => by rw [asmF, if_neg h1, if_neg h2]; exact k2 wn _⟩
theorem asmP_cases {P : Prog} {an : List Int} {k : Int} : (∃ e : Int, e ≠ 0 ∧ ∀ wn, asmP P an k wn = ([], e)) ∨
    (validB P = true ∧ choiceB an P.costs.length = true ∧ (1 ≤ k ∧ k ≤ 4) ∧ (∀ j, j < k.toNat → GoodU P an j) ∧ ∀ wn, asmP P an k wn = ((List.range k.toNat).map (fun j => planR P an (usN P an j) wn), 0)) := by
  by_cases h1 : validB P = false
  · exact .inl ⟨1, by omega, fun wn => by rw [asmP, if_pos h1]⟩
  · by_cases h2 : choiceB an P.costs.length = false ∨ k < 1 ∨ 4 < k
    · exact .inl ⟨2, by omega, fun wn => by rw [asmP, if_neg h1, if_pos h2]⟩
    · rcases asmF_run (P := P) (an := an) k.toNat 0 with ⟨k1, k2⟩ | ⟨e, k1, k2⟩
      · refine .inr ⟨by simpa using h1, ?_, ?_, fun j hj => k1 j (by omega) (by omega), fun wn => ?_⟩
        · cases hc : choiceB an P.costs.length with
          | true => rfl
          | false => exact absurd (.inl hc) h2
        · omega
        · rw [asmP, if_neg h1, if_neg h2]
          have := k2 wn []
          simp only [Nat.zero_add, List.nil_append] at this
          exact this
      · exact .inl ⟨e, k1, fun wn => by rw [asmP, if_neg h1, if_neg h2]; exact k2 wn []⟩
/-! what the choices satisfy -/
theorem plan_in {P : Prog} {an : List Int} {j : Nat} (h : GoodU P an j) : Asc 0 P.costs.length (bestR P an (usN P an j)).2.2 ∧ P.rows.all (meetB (bestR P an (usN P an j)).2.2) = true ∧ (∀ a ∈ an, a ∈ (bestR P an (usN P an j)).2.2) ∧ (∀ u ∈ usN P an j, u ∉ an → u ∉ (bestR P an (usN P an j)).2.2) ∧ sumOf P.costs (bestR P an (usN P an j)).2.2 = (bestR P an (usN P an j)).2.1 := by
  obtain ⟨h1, h2⟩ := h
  obtain ⟨v1, v2, v3, v4⟩ := resE_zero h1
  have hv := res_valid (an := an) (us := usN P an j) v1 v4
  obtain ⟨m1, m2, m3⟩ := best_meets hv h2
  have ha : Asc 0 P.costs.length (bestR P an (usN P an j)).2.2 := m3
  simp only [meetsB, Bool.and_eq_true] at m1
  have := (res_met v2 v3 ha).1 m1.2
  refine ⟨ha, this.1, this.2.1, this.2.2, ?_⟩
  have e : costF ⟨P.costs, resRows P an (usN P an j)⟩ (bestR P an (usN P an j)).2.2 = sumOf P.costs (bestR P an (usN P an j)).2.2 := by
    rw [costF, if_pos]
    rw [costOk, Bool.and_eq_true]
    exact ⟨hv, asc_choice ha⟩
  rw [← e]; exact m2
theorem usN_mem {P : Prog} {an : List Int} {x : Int} : ∀ {i : Nat}, (∀ j, j < i → GoodU P an j) → (x ∈ usN P an i ↔ ∃ j, j < i ∧ x ∈ (bestR P an (usN P an j)).2.2)
  | 0, _ => by simp [usN]
  | i + 1, h => by
    have ih := usN_mem (P := P) (an := an) (x := x) (i := i) fun j hj => h j (by omega)
    obtain ⟨ha, -⟩ := plan_in (h i (by omega))
    show x ∈ usedL _ _ ↔ _
    rw [usedL_mem, List.mem_append, ih]
    constructor
    · rintro ⟨⟨j, hj, hx⟩ | hx, -⟩
      · exact ⟨j, by omega, hx⟩
      · exact ⟨i, by omega, hx⟩
    · rintro ⟨j, hj, hx⟩
      have hb : 0 ≤ x ∧ x < P.costs.length := by
        obtain ⟨hja, -⟩ := plan_in (h j hj)
        have := hja.2 x hx
        omega
      refine ⟨?_, hb⟩
      rcases Nat.lt_or_ge j i with h' | h'
      · exact .inl ⟨j, h', hx⟩
      · obtain rfl : j = i := by omega
        exact .inr hx
theorem plan_up {P : Prog} {an : List Int} {j : Nat} (h : GoodU P an j) (h' : GoodU P an (j + 1)) : (bestR P an (usN P an j)).2.1 ≤ (bestR P an (usN P an (j + 1))).2.1 := by
  obtain ⟨a1, a2, a3, a4, a5⟩ := plan_in h'
  obtain ⟨v1, v2, v3, v4⟩ := resE_zero h.1
  have hv := res_valid (an := an) (us := usN P an j) v1 v4
  have hmem : ∀ u ∈ usN P an j, u ∈ usN P an (j + 1) := fun u hu => usedL_mem.2 ⟨List.mem_append.2 (.inl hu), by have := usN_asc.2 u hu; omega⟩
  have hm : meetsB ⟨P.costs, resRows P an (usN P an j)⟩ (bestR P an (usN P an (j + 1))).2.2 = true := by
    simp only [meetsB, Bool.and_eq_true]
    exact ⟨⟨hv, asc_choice a1⟩, (res_met v2 v3 a1).2 ⟨a2, a3, fun u hu => a4 u (hmem u hu)⟩⟩
  have := (least_ok hv (c := (bestR P an (usN P an (j + 1))).2.2) a1 hm).2.1
  have e : costF ⟨P.costs, resRows P an (usN P an j)⟩ (bestR P an (usN P an (j + 1))).2.2 = (bestR P an (usN P an (j + 1))).2.1 := by
    rw [← a5, costF, if_pos]
    rw [costOk, Bool.and_eq_true]
    exact ⟨hv, asc_choice a1⟩
  rw [e] at this
  exact this
end Go.Proofs.Ytengafkfgcdpeaa
end

/- Layer 11, plainly: Apart. -/
section
namespace Go.Proofs.Ytengafkfgcdpeaa
set_option linter.unusedVariables false
set_option linter.unusedSimpArgs false
set_option linter.unnecessarySimpa false
set_option linter.unusedSectionVars false
set_option maxRecDepth 10000
open Go.RowKit
def AptAt (cs : List (List Int)) (an : List Int) (i : Nat) (l : List Int) : Prop := (∀ a ∈ an, a ∈ l) ∧ ∀ k l', k < i → cs[k]? = some l' → ∀ x ∈ l, x ∈ l' → x ∈ an
def AptTo (cs : List (List Int)) (an : List Int) (n : Nat) : Prop := ∀ i l, i < n → cs[i]? = some l → AptAt cs an i l
def Apt (cs : List (List Int)) (an : List Int) : Prop := AptTo cs an cs.length
theorem AptTo.next {cs : List (List Int)} {an : List Int} {i : Nat} {l : List Int} (h : AptTo cs an i) (hl : cs[i]? = some l) (ha : AptAt cs an i l) : AptTo cs an (i + 1) := fun j l' hj hl' => by
  rcases Nat.lt_or_ge j i with h' | h'
  · exact h j l' h' hl'
  · obtain rfl : j = i := by omega
    rw [hl] at hl'; injection hl' with hl'; subst hl'; exact ha
theorem Apt.at {cs : List (List Int)} {an : List Int} {i : Nat} {l : List Int} (h : Apt cs an) (hl : cs[i]? = some l) : AptAt cs an i l := h i l (List.getElem?_eq_some_iff.1 hl).1 hl
/-- A map that holds a set. -/
def SetM (M : List (Int × Bool)) (S : List Int) : Prop := (keysM M).Nodup ∧ ∀ x, mget x M = if x ∈ S then some true else none
theorem SetM.nil : SetM [] [] := ⟨List.nodup_nil, fun x => by simp [mget]⟩
theorem SetM.put {M : List (Int × Bool)} {S : List Int} (h : SetM M S) (y : Int) : SetM (mput y true M) (S ++ [y]) := by
  refine ⟨mput_nodup h.1, fun x => ?_⟩
  rw [mget_mput h.1, h.2 x]
  by_cases e : x = y
  · subst e; simp
  · by_cases hx : x ∈ S <;> simp [e, hx]
theorem SetM.keys {M : List (Int × Bool)} {S : List Int} (h : SetM M S) {x : Int} : x ∈ keysM M ↔ x ∈ S := by
  have h1 := mget_key (n := x) (l := M)
  rw [h.2 x] at h1
  by_cases hx : x ∈ S
  · rw [if_pos hx] at h1
    constructor
    · exact fun _ => hx
    · exact fun _ => Classical.byContradiction fun hn => by have := h1.2 hn; cases this
  · rw [if_neg hx] at h1
    exact ⟨fun hk => absurd hk (h1.1 rfl), fun h => absurd h hx⟩
theorem SetM.get {M : List (Int × Bool)} {S : List Int} (h : SetM M S) (x : Int) : (mget x M).getD false = decide (x ∈ S) := by
  rw [h.2 x]; by_cases hx : x ∈ S <;> simp [hx]
theorem SetM.len {M A : List (Int × Bool)} {S T : List Int} (h : SetM M S) (h' : SetM A T) (hs : ∀ x ∈ S, x ∈ T) : M.length = A.length ↔ ∀ x ∈ T, x ∈ S := by
  have e1 : (keysM M).length = M.length := List.length_map ..
  have e2 : (keysM A).length = A.length := List.length_map ..
  have hle := nodup_le h.1 (b := keysM A) fun x hx => h'.keys.2 (hs x (h.keys.1 hx))
  constructor
  · intro hl x hx
    exact h.keys.1 (nodup_all h.1 (fun x hx => h'.keys.2 (hs x (h.keys.1 hx))) (by omega) x (h'.keys.2 hx))
  · intro hx
    have := nodup_le h'.1 (b := keysM M) fun x hk => h.keys.2 (hx x (h'.keys.1 hk))
    omega
/-- Who has an option that is no anchor: the first i lists, and q options of the next one. -/
def OwnM (cs : List (List Int)) (an : List Int) (i : Nat) (l : List Int) (O : List (Int × Int)) : Prop :=
  (keysM O).Nodup ∧ ∀ x j, mget x O = some j ↔ x ∉ an ∧ ((∃ (k : Nat) (l' : List Int), j = k ∧ k < i ∧ cs[k]? = some l' ∧ x ∈ l') ∨ (j = i ∧ x ∈ l))
theorem OwnM.nil {cs : List (List Int)} {an : List Int} : OwnM cs an 0 [] [] := ⟨List.nodup_nil, fun x j => by simp [mget]⟩
theorem OwnM.next {cs : List (List Int)} {an : List Int} {i : Nat} {l : List Int} {O : List (Int × Int)} (h : OwnM cs an i l O) (hl : cs[i]? = some l) : OwnM cs an (i + 1) [] O := by
  refine ⟨h.1, fun x j => (h.2 x j).trans (and_congr Iff.rfl ?_)⟩
  constructor
  · rintro (⟨k, l', h1, h2, h3, h4⟩ | ⟨h1, h2⟩)
    · exact .inl ⟨k, l', h1, by omega, h3, h4⟩
    · exact .inl ⟨i, l, h1, by omega, hl, h2⟩
  · rintro (⟨k, l', h1, h2, h3, h4⟩ | ⟨h1, h2⟩)
    · rcases Nat.lt_or_ge k i with h' | h'
      · exact .inl ⟨k, l', h1, h', h3, h4⟩
      · obtain rfl : k = i := by omega
        rw [hl] at h3; injection h3 with h3; subst h3
        exact .inr ⟨h1, h4⟩
    · simp at h2
theorem OwnM.put {cs : List (List Int)} {an : List Int} {i : Nat} {l : List Int} {O : List (Int × Int)} {x : Int} (h : OwnM cs an i l O) (hx : x ∉ an) (hn : ∀ k l', k < i → cs[k]? = some l' → x ∉ l') : OwnM cs an i (l ++ [x]) (mput x (i : Int) O) := by
  refine ⟨mput_nodup h.1, fun y j => ?_⟩
  rw [mget_mput h.1]
  by_cases e : y = x
  · subst e
    rw [if_pos rfl]
    constructor
    · intro hj
      injection hj with hj
      exact ⟨hx, .inr ⟨hj.symm, by simp⟩⟩
    · rintro ⟨-, ⟨k, l', h1, h2, h3, h4⟩ | ⟨h1, -⟩⟩
      · exact absurd h4 (hn k l' h2 h3)
      · rw [h1]
  · rw [if_neg e]
    refine (h.2 y j).trans (and_congr Iff.rfl (or_congr Iff.rfl (and_congr Iff.rfl ?_)))
    simp [e]
theorem OwnM.anchor {cs : List (List Int)} {an : List Int} {i : Nat} {l : List Int} {O : List (Int × Int)} {x : Int} (h : OwnM cs an i l O) (hx : x ∈ an) : OwnM cs an i (l ++ [x]) O := by
  refine ⟨h.1, fun y j => (h.2 y j).trans ?_⟩
  constructor
  · rintro ⟨h1, h2⟩
    exact ⟨h1, h2.imp id fun h => ⟨h.1, by simp [h.2]⟩⟩
  · rintro ⟨h1, h2⟩
    refine ⟨h1, h2.imp id fun h => ⟨h.1, ?_⟩⟩
    have := h.2
    simp at this
    rcases this with h' | h'
    · exact h'
    · subst h'; exact absurd hx h1
theorem take_next {l : List Int} {q : Nat} {x : Int} (h : l[q]? = some x) : l.take (q + 1) = l.take q ++ [x] := by rw [List.take_add_one, h]; rfl
/-- The anchors met among the first q. -/
def metL (an l : List Int) : List Int := l.filter fun x => decide (x ∈ an)
theorem metL_in {an l : List Int} {x : Int} (hx : x ∈ an) : metL an (l ++ [x]) = metL an l ++ [x] := by simp [metL, hx]
theorem metL_out {an l : List Int} {x : Int} (hx : x ∉ an) : metL an (l ++ [x]) = metL an l := by simp [metL, hx]
theorem metL_mem {an l : List Int} {x : Int} : x ∈ metL an l ↔ x ∈ l ∧ x ∈ an := by simp [metL]
def AptR (cs : List (List Int)) (an : List Int) (r : AV) : Prop := ∃ b, r = .bool b ∧ (b = true ↔ cs.length < 2 ∨ Apt cs an)
theorem apt_false {cs : List (List Int)} {an : List Int} (h2 : ¬ cs.length < 2) (h : ¬ Apt cs an) : AptR cs an (.bool false) := ⟨false, rfl, by simp [h]; omega⟩
theorem apt_true {cs : List (List Int)} {an : List Int} (h : cs.length < 2 ∨ Apt cs an) : AptR cs an (.bool true) := ⟨true, rfl, by simp [h]⟩
end Go.Proofs.Ytengafkfgcdpeaa
end

/- Layer 11: the chapter's example; the laws ParallelRestricts and ParallelMany. -/
section
namespace Go.Proofs.Ytengafkfgcdpeaa
set_option linter.unusedVariables false
set_option linter.unusedSimpArgs false
set_option linter.unnecessarySimpa false
set_option linter.unusedSectionVars false
set_option maxRecDepth 10000
open Go.RowKit
def wP : Prog := ⟨[1, 2, 3, 4], [⟨[1, 1, 1, 1], 2, 2⟩]⟩
theorem wfits : Fits wP := ⟨by decide, by decide, by decide⟩
theorem wch : ((asmP wP [0] 2 true).1.map (·.chosen), (asmP wP [0] 2 true).2) = ([[0, 1], [0, 2]], 0) := by decide +kernel
theorem wno : (asmP wP [0] 4 true).2 = 10 := by decide +kernel
theorem wtwo : ∃ p q, asmV wP [0] 2 true = .tup [plsV [p, q], .int .i64 0] ∧ p.chosen = [0, 1] ∧ q.chosen = [0, 2] := by
  have h := wch
  rw [Prod.mk.injEq] at h
  obtain ⟨h1, h2⟩ := h
  unfold asmV
  rw [h2]
  generalize (asmP wP [0] 2 true).1 = l at h1 ⊢
  rcases l with _ | ⟨p, _ | ⟨q, _ | ⟨r, l⟩⟩⟩ <;> simp only [List.map_cons, List.map_nil, List.cons.injEq, and_true, reduceCtorEq, and_false] at h1
  exact ⟨p, q, rfl, h1.1, h1.2⟩
set_option maxHeartbeats 2000000 in
theorem awake11_ok : Good Try.prog TT false 18 [] (· = .bool true) := by
  obtain ⟨p, q, hV, hp, hqc⟩ := wtwo
  have hA := (assemble_ok wP [0] 2 wfits (by decide)).mono fun r h => h.trans hV
  have hB := (assemble_ok wP [0] 4 wfits (by decide)).mono fun r (h : r = .tup [plsV (asmP wP [0] 4 true).1, .int .i64 (asmP wP [0] 4 true).2]) => h.trans (by rw [wno] : _ = AV.tup [plsV (asmP wP [0] 4 true).1, .int .i64 10])
  have hI1 := ints_ok p.chosen [0, 1] (by rw [hp]; decide) (by decide)
  have hI2 := ints_ok q.chosen [0, 2] (by rw [hqc]; decide) (by decide)
  rw [decide_eq_true hp] at hI1
  rw [decide_eq_true hqc] at hI2
  refine good_of mixed tabOk Try.func18 rfl rfl Try.ntmps18 Try.results18 rfl rfl ?_
  (conv => whnf); (repeat' (first | (refine arith_i ⟨by omega, by omega⟩ ?_; conv => whnf) | (refine arith_u ⟨by omega, by omega⟩ ?_; conv => whnf) | (refine arith_8 ⟨by omega, by omega⟩ ?_; conv => whnf) | (refine need_i (by first | omega | (simp only [List.length_cons, List.length_nil]; omega) | (simp only [List.length_append, List.length_cons, List.length_nil, List.length_map, List.length_replicate, List.length_modify]; omega)) ?_; conv => whnf) | ((with_reducible refine branch_tt ?_); conv => whnf) | ((with_reducible refine branch_ff ?_); conv => whnf) | (with_reducible refine branch_not ?_) | ((refine call_e hA ?_); conv => whnf) | ((refine call_e hB ?_); conv => whnf) | ((refine call_e hI1 ?_); conv => whnf) | ((refine call_e hI2 ?_); conv => whnf) | ((refine idx_i (cs := encPl p) (by omega) rfl ?_); conv => whnf) | ((refine idx_i (cs := encPl q) (by omega) rfl ?_); conv => whnf) | ((with_reducible refine slc_e ?_); conv => whnf) | ((with_reducible refine callS_a ?_); conv => whnf) | ((with_reducible refine bld_a ?_); conv => whnf) | ((with_reducible refine own_e ?_); conv => whnf) | ((with_reducible refine mkmap_b ?_); conv => whnf) | ((with_reducible refine branch_d (fun hq => ?_) (fun hq => ?_)) <;> (try (exfalso; omega)) <;> (conv => whnf)) | ((with_reducible refine branch_e (fun hq => ?_) (fun hq => ?_)) <;> (try (exfalso; omega)) <;> (conv => whnf)) | ((with_reducible refine branch_n (fun hq => ?_) (fun hq => ?_)) <;> (try (exfalso; omega)) <;> (conv => whnf)) | ((with_reducible refine branch_i (fun hq => ?_) (fun hq => ?_)) <;> (try (exfalso; omega)) <;> (conv => whnf))))
  all_goals first
    | exact ret_p rfl rfl
    | (exfalso; exact absurd rfl hq)
end Go.Proofs.Ytengafkfgcdpeaa
end

/- Layer 11: Apart, of the program and of the reference. -/
section
namespace Go.Proofs.Ytengafkfgcdpeaa
set_option linter.unusedVariables false
set_option linter.unusedSimpArgs false
set_option linter.unnecessarySimpa false
set_option linter.unusedSectionVars false
set_option maxRecDepth 10000
open Go.RowKit
set_option maxRecDepth 100000 in
theorem zero_bool11 (w : World) : (zeroValue 4).run Try.prog w = .ok (.bool false) w := by
  have h : (Try.prog.info? 4).bind (·.zero) = some (.bool false) := by kernel_rfl
  obtain ⟨i, hi, hz⟩ := Option.bind_eq_some_iff.1 h
  simp [zeroValue, typeInfo, hi, hz]
set_option maxRecDepth 100000 in
theorem zero_int11 (w : World) : (zeroValue 3).run Try.prog w = .ok (.int .i64 0) w := by
  have h : (Try.prog.info? 3).bind (·.zero) = some (.int .i64 0) := by kernel_rfl
  obtain ⟨i, hi, hz⟩ := Option.bind_eq_some_iff.1 h
  simp [zeroValue, typeInfo, hi, hz]
theorem map_tb {A : Prop} (h : A) : mapTy Try.prog 89 (.bool false) A := map_i Try.underlying89 Try.underlying3 zero_bool11 h
theorem map_tn {A : Prop} (h : A) : mapTy Try.prog 90 (.int .i64 0) A := map_i Try.underlying90 Try.underlying3 zero_int11 h
set_option maxHeartbeats 4000000 in
theorem apart_ok (cs : List (List Int)) (an : List Int) (h1 : cs.length ≤ 1000) (h2 : an.length ≤ 1000000) (h3 : ∀ l ∈ cs, l.length ≤ 9223372036854775807) : Good Try.prog TT false 22 [.lst 1 (cs.map encS), ints an] (AptR cs an) := by
  have LC : (cs.map encS).length = cs.length := List.length_map ..
  have LN : (an.map encI).length = an.length := List.length_map ..
  refine good_of mixed tabOk Try.func22 rfl rfl Try.ntmps22 Try.results22 rfl rfl ?_
  (conv => whnf); (repeat' (first | (refine arith_i ⟨by omega, by omega⟩ ?_; conv => whnf) | (refine arith_u ⟨by omega, by omega⟩ ?_; conv => whnf) | (refine arith_8 ⟨by omega, by omega⟩ ?_; conv => whnf) | (refine need_i (by first | omega | (simp only [List.length_cons, List.length_nil]; omega) | (simp only [List.length_append, List.length_cons, List.length_nil, List.length_map, List.length_replicate, List.length_modify]; omega)) ?_; conv => whnf) | ((with_reducible refine branch_tt ?_); conv => whnf) | ((with_reducible refine branch_ff ?_); conv => whnf) | (with_reducible refine branch_not ?_) | ((refine map_tb ?_); conv => whnf) | ((refine map_tn ?_); conv => whnf) | ((with_reducible refine slc_e ?_); conv => whnf) | ((with_reducible refine callS_a ?_); conv => whnf) | ((with_reducible refine bld_a ?_); conv => whnf) | ((with_reducible refine own_e ?_); conv => whnf) | ((with_reducible refine mkmap_b ?_); conv => whnf) | ((with_reducible refine branch_d (fun hq => ?_) (fun hq => ?_)) <;> (try (exfalso; omega)) <;> (conv => whnf)) | ((with_reducible refine branch_e (fun hq => ?_) (fun hq => ?_)) <;> (try (exfalso; omega)) <;> (conv => whnf)) | ((with_reducible refine branch_n (fun hq => ?_) (fun hq => ?_)) <;> (try (exfalso; omega)) <;> (conv => whnf)) | ((with_reducible refine branch_i (fun hq => ?_) (fun hq => ?_)) <;> (try (exfalso; omega)) <;> (conv => whnf))))
  · exact ret_p rfl (apt_true (.inl (by omega)))
  have hc2 : ¬ cs.length < 2 := by omega
  refine loop_i2 (fun (k : Nat) (A : List (Int × Bool)) => k ≤ an.length ∧ SetM A (an.take k)) (fun k A => mkSt [(0, .lst 1 (cs.map encS)), (5, .mp 19 (.b A)), (20, ints an), (21, .int .i64 (an.map encI).length), (22, .int .i64 k)] [] false) (fun k _ => an.length - k) 0 [] ⟨Nat.zero_le _, SetM.nil⟩ (le_mk (by repeat' (first | exact trivial | rfl | apply And.intro)) (by repeat' (first | exact trivial | rfl | apply And.intro)) rfl) ?_
  rintro k A ⟨hk, hA⟩
  (conv => whnf); (repeat' (first | (refine arith_i ⟨by omega, by omega⟩ ?_; conv => whnf) | (refine arith_u ⟨by omega, by omega⟩ ?_; conv => whnf) | (refine arith_8 ⟨by omega, by omega⟩ ?_; conv => whnf) | (refine need_i (by first | omega | (simp only [List.length_cons, List.length_nil]; omega) | (simp only [List.length_append, List.length_cons, List.length_nil, List.length_map, List.length_replicate, List.length_modify]; omega)) ?_; conv => whnf) | ((with_reducible refine branch_tt ?_); conv => whnf) | ((with_reducible refine branch_ff ?_); conv => whnf) | (with_reducible refine branch_not ?_) | ((refine map_tb ?_); conv => whnf) | ((refine map_tn ?_); conv => whnf) | (((refine idx_c (xs := an) (by omega) fun a haa => ?_)); conv => whnf) | ((refine mkmap_n ?_); conv => whnf) | ((with_reducible refine slc_e ?_); conv => whnf) | ((with_reducible refine callS_a ?_); conv => whnf) | ((with_reducible refine bld_a ?_); conv => whnf) | ((with_reducible refine own_e ?_); conv => whnf) | ((with_reducible refine mkmap_b ?_); conv => whnf) | ((with_reducible refine branch_d (fun hq => ?_) (fun hq => ?_)) <;> (try (exfalso; omega)) <;> (conv => whnf)) | ((with_reducible refine branch_e (fun hq => ?_) (fun hq => ?_)) <;> (try (exfalso; omega)) <;> (conv => whnf)) | ((with_reducible refine branch_n (fun hq => ?_) (fun hq => ?_)) <;> (try (exfalso; omega)) <;> (conv => whnf)) | ((with_reducible refine branch_i (fun hq => ?_) (fun hq => ?_)) <;> (try (exfalso; omega)) <;> (conv => whnf))))
  · exact ⟨k + 1, mput a true A, ⟨by omega, by rw [take_next haa]; exact hA.put a⟩, (le_mk (by repeat' (first | exact trivial | rfl | apply And.intro)) (by repeat' (first | exact trivial | rfl | apply And.intro)) rfl), by omega⟩
  have hkk : an.take k = an := List.take_of_length_le (by omega)
  rw [hkk] at hA
  refine loop_i2 (fun (i : Nat) (O : List (Int × Int)) => i ≤ cs.length ∧ OwnM cs an i [] O ∧ AptTo cs an i) (fun i O => mkSt [(5, .mp 19 (.b A)), (8, .mp 29 (.i O)), (30, .lst 1 (cs.map encS)), (31, .int .i64 (cs.map encS).length), (32, .int .i64 i)] [] false) (fun i _ => cs.length - i) 0 [] ⟨Nat.zero_le _, OwnM.nil, fun i l hi => by omega⟩ (le_mk (by repeat' (first | exact trivial | rfl | apply And.intro)) (by repeat' (first | exact trivial | rfl | apply And.intro)) rfl) ?_
  rintro i O ⟨hi, hO, hT⟩
  (conv => whnf); (repeat' (first | (refine arith_i ⟨by omega, by omega⟩ ?_; conv => whnf) | (refine arith_u ⟨by omega, by omega⟩ ?_; conv => whnf) | (refine arith_8 ⟨by omega, by omega⟩ ?_; conv => whnf) | (refine need_i (by first | omega | (simp only [List.length_cons, List.length_nil]; omega) | (simp only [List.length_append, List.length_cons, List.length_nil, List.length_map, List.length_replicate, List.length_modify]; omega)) ?_; conv => whnf) | ((with_reducible refine branch_tt ?_); conv => whnf) | ((with_reducible refine branch_ff ?_); conv => whnf) | (with_reducible refine branch_not ?_) | ((refine map_tb ?_); conv => whnf) | ((refine map_tn ?_); conv => whnf) | (((refine idx_c (xs := cs) (by omega) fun l hl => ?_; have LL : (l.map encI).length = l.length := (List.length_map ..); have hll := h3 l (List.mem_of_getElem? hl))); conv => whnf) | ((with_reducible refine slc_e ?_); conv => whnf) | ((with_reducible refine callS_a ?_); conv => whnf) | ((with_reducible refine bld_a ?_); conv => whnf) | ((with_reducible refine own_e ?_); conv => whnf) | ((with_reducible refine mkmap_b ?_); conv => whnf) | ((with_reducible refine branch_d (fun hq => ?_) (fun hq => ?_)) <;> (try (exfalso; omega)) <;> (conv => whnf)) | ((with_reducible refine branch_e (fun hq => ?_) (fun hq => ?_)) <;> (try (exfalso; omega)) <;> (conv => whnf)) | ((with_reducible refine branch_n (fun hq => ?_) (fun hq => ?_)) <;> (try (exfalso; omega)) <;> (conv => whnf)) | ((with_reducible refine branch_i (fun hq => ?_) (fun hq => ?_)) <;> (try (exfalso; omega)) <;> (conv => whnf))))
  · refine loop_i3 (fun (q : Nat) (M : List (Int × Bool)) (O : List (Int × Int)) => q ≤ l.length ∧ SetM M (metL an (l.take q)) ∧ OwnM cs an i (l.take q) O ∧ ∀ x ∈ l.take q, x ∉ an → ∀ k l', k < i → cs[k]? = some l' → x ∉ l') (fun q M O => mkSt [(5, .mp 19 (.b A)), (8, .mp 29 (.i O)), (9, .int .i64 i), (11, .mp 37 (.b M)), (30, .lst 1 (cs.map encS)), (31, .int .i64 (cs.map encS).length), (32, .int .i64 i), (38, ints l), (39, .int .i64 (l.map encI).length), (40, .int .i64 q)] [] false) (fun q _ _ => l.length - q) 0 [] O ⟨Nat.zero_le _, SetM.nil, hO, by simp⟩ ?_ ?_
    · exact (le_mk (by repeat' (first | exact trivial | rfl | apply And.intro)) (by repeat' (first | exact trivial | rfl | apply And.intro)) rfl)
    rintro q M O ⟨hq1, hM, hO, hD⟩
    (conv => whnf); (repeat' (first | (refine arith_i ⟨by omega, by omega⟩ ?_; conv => whnf) | (refine arith_u ⟨by omega, by omega⟩ ?_; conv => whnf) | (refine arith_8 ⟨by omega, by omega⟩ ?_; conv => whnf) | (refine need_i (by first | omega | (simp only [List.length_cons, List.length_nil]; omega) | (simp only [List.length_append, List.length_cons, List.length_nil, List.length_map, List.length_replicate, List.length_modify]; omega)) ?_; conv => whnf) | ((with_reducible refine branch_tt ?_); conv => whnf) | ((with_reducible refine branch_ff ?_); conv => whnf) | (with_reducible refine branch_not ?_) | ((refine map_tb ?_); conv => whnf) | ((refine map_tn ?_); conv => whnf) | (((refine idx_c (xs := l) (by omega) fun x hx => ?_)); conv => whnf) | ((rw [hA.get]); conv => whnf) | ((with_reducible refine slc_e ?_); conv => whnf) | ((with_reducible refine callS_a ?_); conv => whnf) | ((with_reducible refine bld_a ?_); conv => whnf) | ((with_reducible refine own_e ?_); conv => whnf) | ((with_reducible refine mkmap_b ?_); conv => whnf) | ((with_reducible refine branch_d (fun hq => ?_) (fun hq => ?_)) <;> (try (exfalso; omega)) <;> (conv => whnf)) | ((with_reducible refine branch_e (fun hq => ?_) (fun hq => ?_)) <;> (try (exfalso; omega)) <;> (conv => whnf)) | ((with_reducible refine branch_n (fun hq => ?_) (fun hq => ?_)) <;> (try (exfalso; omega)) <;> (conv => whnf)) | ((with_reducible refine branch_i (fun hq => ?_) (fun hq => ?_)) <;> (try (exfalso; omega)) <;> (conv => whnf))))
    · have hm : x ∈ an := ‹x ∈ an›
      refine ⟨q + 1, mput x true M, O, ⟨by omega, by rw [take_next hx, metL_in hm]; exact hM.put x, by rw [take_next hx]; exact hO.anchor hm, ?_⟩, (le_mk (by repeat' (first | exact trivial | rfl | apply And.intro)) (by repeat' (first | exact trivial | rfl | apply And.intro)) rfl), by omega⟩
      rw [take_next hx]
      intro y hy hn
      rw [List.mem_append, List.mem_singleton] at hy
      rcases hy with hy | rfl
      · exact hD y hy hn
      · exact absurd hm hn
    · refine ret_p rfl (apt_false hc2 fun hA' => ?_)
      obtain ⟨j, hj⟩ := Option.isSome_iff_exists.1 ‹(mget x O).isSome = true›
      have hne : j ≠ (i : Int) := fun e => hq (by rw [hj]; exact e)
      obtain ⟨g1, ⟨k', l', e1, e2, e3, e4⟩ | ⟨e1, -⟩⟩ := (hO.2 x j).1 hj
      · exact g1 ((hA'.at hl).2 k' l' e2 e3 x (List.mem_of_getElem? hx) e4)
      · exact hne e1
    · have hm : x ∉ an := ‹¬ x ∈ an›
      have hn : ∀ k l', k < i → cs[k]? = some l' → x ∉ l' := fun k' l' e2 e3 e4 => by
        have := (hO.2 x k').2 ⟨hm, .inl ⟨k', l', rfl, e2, e3, e4⟩⟩
        have e5 : (mget x O).getD 0 = (i : Int) := by omega
        rw [this] at e5
        have : (k' : Int) = i := e5
        omega
      refine ⟨q + 1, M, mput x (i : Int) O, ⟨by omega, by rw [take_next hx, metL_out hm]; exact hM, by rw [take_next hx]; exact hO.put hm hn, ?_⟩, (le_mk (by repeat' (first | exact trivial | rfl | apply And.intro)) (by repeat' (first | exact trivial | rfl | apply And.intro)) rfl), by omega⟩
      rw [take_next hx]
      intro y hy hny
      rw [List.mem_append, List.mem_singleton] at hy
      rcases hy with hy | rfl
      · exact hD y hy hny
      · exact hn
    · have hm : x ∉ an := ‹¬ x ∈ an›
      have hn : ∀ k l', k < i → cs[k]? = some l' → x ∉ l' := fun k' l' e2 e3 e4 => by
        have := (hO.2 x k').2 ⟨hm, .inl ⟨k', l', rfl, e2, e3, e4⟩⟩
        have e5 : (mget x O).isSome = false := ‹(mget x O).isSome = false›
        rw [this] at e5
        cases e5
      refine ⟨q + 1, M, mput x (i : Int) O, ⟨by omega, by rw [take_next hx, metL_out hm]; exact hM, by rw [take_next hx]; exact hO.put hm hn, ?_⟩, (le_mk (by repeat' (first | exact trivial | rfl | apply And.intro)) (by repeat' (first | exact trivial | rfl | apply And.intro)) rfl), by omega⟩
      rw [take_next hx]
      intro y hy hny
      rw [List.mem_append, List.mem_singleton] at hy
      rcases hy with hy | rfl
      · exact hD y hy hny
      · exact hn
    all_goals
      have hqq : l.take q = l := List.take_of_length_le (by omega)
      rw [hqq] at hM hO hD
      have hlen := hM.len hA fun x hx => (metL_mem.1 hx).2
    · refine ret_p rfl (apt_false hc2 fun hA' => ?_)
      exact hq (show (M.length : Int) = A.length by rw [hlen.2 fun x hx => metL_mem.2 ⟨(hA'.at hl).1 x hx, hx⟩])
    · have hs : M.length = A.length := by have : (M.length : Int) = A.length := hq; omega
      have hat : AptAt cs an i l := ⟨fun a ha => (metL_mem.1 (hlen.1 hs a ha)).1, fun k' l' e2 e3 x hx hx' => Classical.byContradiction fun hn => hD x hx hn k' l' e2 e3 hx'⟩
      exact ⟨i + 1, O, ⟨by omega, hO.next hl, hT.next hl hat⟩, (le_mk (by repeat' (first | exact trivial | rfl | apply And.intro)) (by repeat' (first | exact trivial | rfl | apply And.intro)) rfl), by omega⟩
  · have hin : i = cs.length := by omega
    exact ret_p rfl (apt_true (.inr (by rw [hin] at hT; exact hT)))
end Go.Proofs.Ytengafkfgcdpeaa
end

/- Layer 8 of the tape: Program, whose slices the caller may go on with. -/
section
namespace Go.Proofs.Ytengafkfgcdpeaa
set_option linter.unusedVariables false
set_option linter.unusedSimpArgs false
set_option linter.unnecessarySimpa false
set_option linter.unusedSectionVars false
set_option maxRecDepth 10000
open Go.RowKit
def plGL11g_0 : Plan := (.take 0 (.take 1 (.take 2 (.alt 3 (.alt 4 (.alt 5 (.alt 6 (.take 7 (.alt 8 .done .stop)) .stop) .stop) .stop) .stop))))
def plGL11g_1 : Plan := (.take 0 (.take 2 (.alt 1 (.alt 3 (.alt 4 (.alt 5 (.alt 6 (.take 7 (.alt 8 .done .stop)) .stop) .stop) .stop) .stop) (.alt 3 (.alt 1 (.alt 4 (.alt 5 (.alt 6 (.take 7 (.alt 8 .done .stop)) .stop) .stop) .stop) (.alt 4 (.alt 1 (.alt 5 (.alt 6 (.take 7 (.alt 8 .done .stop)) .stop) .stop) (.alt 5 (.alt 1 (.alt 6 (.take 7 (.alt 8 .done .stop)) .stop) .stop) .stop)) .stop)) .stop))))
def plGL11g_2 : Plan := (.take 0 (.take 1 (.take 2 (.take 4 (.take 6 (.alt 3 (.alt 5 (.alt 7 (.take 8 (.alt 9 (.alt 10 (.take 11 (.alt 12 .done .stop)) .stop) .stop)) .stop) .stop) (.alt 5 (.alt 3 (.alt 7 (.take 8 (.alt 9 (.alt 10 (.take 11 (.alt 12 .done .stop)) .stop) .stop)) .stop) (.alt 7 (.alt 3 (.take 8 (.alt 9 (.alt 10 (.take 11 (.alt 12 .done .stop)) .stop) .stop)) .stop) .stop)) .stop)))))))
def plGL11g_3 : Plan := (.take 0 (.take 2 (.take 4 (.take 6 (.alt 1 (.alt 3 (.alt 5 (.alt 7 (.take 8 (.alt 9 (.alt 10 (.take 11 (.alt 12 .done .stop)) .stop) .stop)) .stop) .stop) (.alt 5 (.alt 3 (.alt 7 (.take 8 (.alt 9 (.alt 10 (.take 11 (.alt 12 .done .stop)) .stop) .stop)) .stop) (.alt 7 (.alt 3 (.take 8 (.alt 9 (.alt 10 (.take 11 (.alt 12 .done .stop)) .stop) .stop)) .stop) .stop)) .stop)) (.alt 3 (.alt 1 (.alt 5 (.alt 7 (.take 8 (.alt 9 (.alt 10 (.take 11 (.alt 12 .done .stop)) .stop) .stop)) .stop) .stop) (.alt 5 (.alt 1 (.alt 7 (.take 8 (.alt 9 (.alt 10 (.take 11 (.alt 12 .done .stop)) .stop) .stop)) .stop) (.alt 7 (.take 8 (.alt 1 (.alt 9 (.alt 10 (.take 11 (.alt 12 .done .stop)) .stop) .stop) (.alt 9 (.alt 1 (.alt 10 (.take 11 (.alt 12 .done .stop)) .stop) .stop) .stop))) .stop)) .stop)) (.alt 5 (.alt 1 (.alt 3 (.alt 7 (.take 8 (.alt 9 (.alt 10 (.take 11 (.alt 12 .done .stop)) .stop) .stop)) .stop) (.alt 7 (.alt 3 (.take 8 (.alt 9 (.alt 10 (.take 11 (.alt 12 .done .stop)) .stop) .stop)) .stop) .stop)) (.alt 3 (.alt 1 (.alt 7 (.take 8 (.alt 9 (.alt 10 (.take 11 (.alt 12 .done .stop)) .stop) .stop)) .stop) (.alt 7 (.take 8 (.alt 1 (.alt 9 (.alt 10 (.take 11 (.alt 12 .done .stop)) .stop) .stop) (.alt 9 (.alt 1 (.alt 10 (.take 11 (.alt 12 .done .stop)) .stop) .stop) .stop))) .stop)) (.alt 7 (.alt 1 (.alt 3 (.take 8 (.alt 9 (.alt 10 (.take 11 (.alt 12 .done .stop)) .stop) .stop)) .stop) (.alt 3 (.take 8 (.alt 1 (.alt 9 (.alt 10 (.take 11 (.alt 12 .done .stop)) .stop) .stop) (.alt 9 (.alt 1 (.alt 10 (.take 11 (.alt 12 .done .stop)) .stop) .stop) .stop))) .stop)) .stop))) .stop)))))))
def plGL11g_4 : Plan := (.take 0 (.take 1 (.take 2 (.take 3 (.alt 4 (.take 5 (.alt 6 (.alt 7 (.take 8 (.alt 9 .done .stop)) .stop) .stop)) .stop)))))
def plGL11g_5 : Plan := (.take 0 (.take 2 (.take 3 (.alt 1 (.alt 4 (.take 5 (.alt 6 (.alt 7 (.take 8 (.alt 9 .done .stop)) .stop) .stop)) .stop) (.alt 4 (.take 5 (.alt 1 (.alt 6 (.alt 7 (.take 8 (.alt 9 .done .stop)) .stop) .stop) (.alt 6 (.alt 1 (.alt 7 (.take 8 (.alt 9 .done .stop)) .stop) .stop) .stop))) .stop)))))
def progO (t1 t2 : Nat) (P : Prog) : AV := .agg [.own t1 3 1 (P.costs.map encI), .own t2 39 3 (P.rows.map encRow)]
theorem two_eq {t1 t2 : Tg} {a a' b b' : List (List AV)} (h1 : a = a') (h2 : b = b') : AV.agg [.own t1 3 1 a, .own t2 39 3 b] = .agg [.own t1 3 1 a', .own t2 39 3 b'] := by rw [h1, h2]
set_option maxHeartbeats 1000000 in
theorem programM_any (m n : Int) (hm : 0 ≤ m ∧ m ≤ 50) (hn : 0 ≤ n ∧ n ≤ 1000) : GoodM Try.prog TT true 12 [.tape, .int .i64 m, .int .i64 n] [] (fun r ov bx => ∃ P : Prog, (r = progO 7 8 P ∧ ov = [] ∧ bx = []) ∧ Small P ∧ (P.costs.length : Int) ≤ m + 13 ∧ (n = 0 → ProgG m P)) := by
  refine good_of_m (fun _ => false) mixed tabOk Try.func12 rfl rfl Try.ntmps12 Try.results12 rfl rfl ?_
  (conv => whnf); (repeat' (first | (refine arith_i ⟨by omega, by omega⟩ ?_; conv => whnf) | (refine arith_u ⟨by omega, by omega⟩ ?_; conv => whnf) | (refine arith_8 ⟨by omega, by omega⟩ ?_; conv => whnf) | (refine need_i (by first | omega | (simp only [List.length_cons, List.length_nil]; omega) | (simp only [List.length_append, List.length_cons, List.length_nil, List.length_map, List.length_replicate, List.length_modify]; omega)) ?_; conv => whnf) | ((with_reducible refine branch_tt ?_); conv => whnf) | ((with_reducible refine branch_ff ?_); conv => whnf) | (with_reducible refine branch_not ?_) | ((refine call_i (range_ok 0 m (by omega) (by omega)) fun r hr => ?_; obtain ⟨k, rfl, h1, h2⟩ := hr; have hk := h2 hm.1); conv => whnf) | ((with_reducible refine slc_e ?_); conv => whnf) | ((with_reducible refine callS_a ?_); conv => whnf) | ((with_reducible refine bld_a ?_); conv => whnf) | ((with_reducible refine own_e ?_); conv => whnf) | ((with_reducible refine mkmap_b ?_); conv => whnf) | (refine draw_i 8 plGL11g_0 (by decide +kernel) ?_; (conv => whnf); fail_if_success (guard_target =~ False)) | (refine draw_i 8 plGL11g_1 (by decide +kernel) ?_; (conv => whnf); fail_if_success (guard_target =~ False)) | (refine draw_i 8 plGL11g_0 (by decide +kernel) ?_; (conv => whnf); fail_if_success (guard_target =~ False)) | (refine draw_i 8 plGL11g_1 (by decide +kernel) ?_; (conv => whnf); fail_if_success (guard_target =~ False)) | (refine draw_i 8 plGL11g_0 (by decide +kernel) ?_; (conv => whnf); fail_if_success (guard_target =~ False)) | (refine draw_i 8 plGL11g_1 (by decide +kernel) ?_; (conv => whnf); fail_if_success (guard_target =~ False)) | (refine draw_i 12 plGL11g_2 (by decide +kernel) ?_; (conv => whnf); fail_if_success (guard_target =~ False)) | (refine draw_i 12 plGL11g_3 (by decide +kernel) ?_; (conv => whnf); fail_if_success (guard_target =~ False)) | (refine draw_i 9 plGL11g_4 (by decide +kernel) ?_; (conv => whnf); fail_if_success (guard_target =~ False)) | (refine draw_i 9 plGL11g_5 (by decide +kernel) ?_; (conv => whnf); fail_if_success (guard_target =~ False)) | ((with_reducible refine And.intro ?_ ?_) <;> (conv => whnf)) | (with_reducible exact trivial) | ((with_reducible refine branch_d (fun hq => ?_) (fun hq => ?_)) <;> (try (exfalso; omega)) <;> (conv => whnf)) | ((with_reducible refine branch_e (fun hq => ?_) (fun hq => ?_)) <;> (try (exfalso; omega)) <;> (conv => whnf)) | ((with_reducible refine branch_n (fun hq => ?_) (fun hq => ?_)) <;> (try (exfalso; omega)) <;> (conv => whnf)) | ((with_reducible refine branch_i (fun hq => ?_) (fun hq => ?_)) <;> (try (exfalso; omega)) <;> (conv => whnf))))
  refine loop_i (fun cs : List Int => (cs.length : Int) ≤ k ∧ ∀ x ∈ cs, x ∈ costL) (fun cs => mkSt [(0, .tape), (2, .int .i64 n), (6, .ptr 6 0), (7, .ptr 7 0), (8, .int .i64 k), (9, .int .i64 cs.length)] [(6, [.nil, .nil]), (7, [.own 7 3 1 (cs.map encI), .nil])] true) (fun cs => k.toNat - cs.length) [] ⟨by simp; omega, by simp⟩ (Le.trans (le_adoptBox 7 0 7 3 1 rfl rfl) (le_mk (by repeat' (first | exact trivial | rfl | apply And.intro)) (by repeat' (first | exact trivial | rfl | apply And.intro)) rfl)) ?_
  rintro cs ⟨hcl, hcs⟩
  have LC : (cs.map encI).length = cs.length := List.length_map ..
  (conv => whnf); (repeat' (first | (refine arith_i ⟨by omega, by omega⟩ ?_; conv => whnf) | (refine arith_u ⟨by omega, by omega⟩ ?_; conv => whnf) | (refine arith_8 ⟨by omega, by omega⟩ ?_; conv => whnf) | (refine need_i (by first | omega | (simp only [List.length_cons, List.length_nil]; omega) | (simp only [List.length_append, List.length_cons, List.length_nil, List.length_map, List.length_replicate, List.length_modify]; omega)) ?_; conv => whnf) | ((with_reducible refine branch_tt ?_); conv => whnf) | ((with_reducible refine branch_ff ?_); conv => whnf) | (with_reducible refine branch_not ?_) | ((refine call_i (pick_ok costL (by decide) (by decide)) fun r hr => ?_; obtain ⟨x, rfl, hx⟩ := hr); conv => whnf) | ((refine call_i (next_ok 4 (by omega)) fun r hr => ?_; obtain ⟨m0, rfl, -, h3⟩ := hr; have hm0 := h3 (by omega)); conv => whnf) | ((with_reducible refine slc_e ?_); conv => whnf) | ((with_reducible refine callS_a ?_); conv => whnf) | ((with_reducible refine bld_a ?_); conv => whnf) | ((with_reducible refine own_e ?_); conv => whnf) | ((with_reducible refine mkmap_b ?_); conv => whnf) | (refine draw_i 8 plGL11g_0 (by decide +kernel) ?_; (conv => whnf); fail_if_success (guard_target =~ False)) | (refine draw_i 8 plGL11g_1 (by decide +kernel) ?_; (conv => whnf); fail_if_success (guard_target =~ False)) | (refine draw_i 8 plGL11g_0 (by decide +kernel) ?_; (conv => whnf); fail_if_success (guard_target =~ False)) | (refine draw_i 8 plGL11g_1 (by decide +kernel) ?_; (conv => whnf); fail_if_success (guard_target =~ False)) | (refine draw_i 8 plGL11g_0 (by decide +kernel) ?_; (conv => whnf); fail_if_success (guard_target =~ False)) | (refine draw_i 8 plGL11g_1 (by decide +kernel) ?_; (conv => whnf); fail_if_success (guard_target =~ False)) | (refine draw_i 12 plGL11g_2 (by decide +kernel) ?_; (conv => whnf); fail_if_success (guard_target =~ False)) | (refine draw_i 12 plGL11g_3 (by decide +kernel) ?_; (conv => whnf); fail_if_success (guard_target =~ False)) | (refine draw_i 9 plGL11g_4 (by decide +kernel) ?_; (conv => whnf); fail_if_success (guard_target =~ False)) | (refine draw_i 9 plGL11g_5 (by decide +kernel) ?_; (conv => whnf); fail_if_success (guard_target =~ False)) | ((with_reducible refine And.intro ?_ ?_) <;> (conv => whnf)) | (with_reducible exact trivial) | ((with_reducible refine branch_d (fun hq => ?_) (fun hq => ?_)) <;> (try (exfalso; omega)) <;> (conv => whnf)) | ((with_reducible refine branch_e (fun hq => ?_) (fun hq => ?_)) <;> (try (exfalso; omega)) <;> (conv => whnf)) | ((with_reducible refine branch_n (fun hq => ?_) (fun hq => ?_)) <;> (try (exfalso; omega)) <;> (conv => whnf)) | ((with_reducible refine branch_i (fun hq => ?_) (fun hq => ?_)) <;> (try (exfalso; omega)) <;> (conv => whnf))))
  · exact ⟨cs ++ [x], ⟨by simp; omega, snoc_in hcs hx⟩, le_mk ⟨rfl, rfl, rfl, rfl, rfl, int_eq (by simp), trivial⟩ ⟨rfl, box_snoc (enc := encI) [] [.nil] x, trivial⟩ rfl, by simp; omega⟩
  have ek : k = cs.length := by omega
  refine loop_i (fun rs : List Row => (rs.length : Int) ≤ m0 ∧ ∀ r ∈ rs, RowG cs.length r) (fun rs => mkSt [(0, .tape), (2, .int .i64 n), (6, .ptr 6 0), (7, .ptr 7 0), (8, .int .i64 k), (10, .int .i64 (m0 - rs.length))] [(6, [.nil, .nil]), (7, [.own 7 3 1 (cs.map encI), .own 8 39 3 (rs.map encRow)])] true) (fun rs => m0.toNat - rs.length) [] ⟨by simp; omega, by simp⟩ (Le.trans (le_adoptBox 7 1 8 39 3 rfl rfl) (le_mk ⟨rfl, rfl, rfl, rfl, rfl, int_eq (by simp), trivial⟩ ⟨rfl, rfl, trivial⟩ rfl)) ?_
  rintro rs ⟨hrl, hrs⟩
  have LR : (rs.map encRow).length = rs.length := List.length_map ..
  (conv => whnf); (repeat' (first | (refine arith_i ⟨by omega, by omega⟩ ?_; conv => whnf) | (refine arith_u ⟨by omega, by omega⟩ ?_; conv => whnf) | (refine arith_8 ⟨by omega, by omega⟩ ?_; conv => whnf) | (refine need_i (by first | omega | (simp only [List.length_cons, List.length_nil]; omega) | (simp only [List.length_append, List.length_cons, List.length_nil, List.length_map, List.length_replicate, List.length_modify]; omega)) ?_; conv => whnf) | ((with_reducible refine branch_tt ?_); conv => whnf) | ((with_reducible refine branch_ff ?_); conv => whnf) | (with_reducible refine branch_not ?_) | ((refine call_i (range_ok (-2) 4 (by omega) (by omega)) fun r hr => ?_; obtain ⟨lo, rfl, -, hlo⟩ := hr); conv => whnf) | ((refine call_i (range_ok 2 9 (by omega) (by omega)) fun r hr => ?_; obtain ⟨hi, rfl, -, hhi⟩ := hr); conv => whnf) | ((refine call_i (one_ok n (by omega)) fun r hr => ?_; obtain ⟨b1, rfl⟩ := hr); conv => whnf) | ((refine call_i (next_ok 5 (by omega)) fun r hr => ?_; obtain ⟨m1, rfl, -, h5⟩ := hr; have hm1 := h5 (by omega)); conv => whnf) | ((refine call_i wild_ok fun r hr => ?_; obtain ⟨wi, rfl, hwi⟩ := hr); conv => whnf) | ((refine call_i (pick_ok [-1, 10000, 10001] (by decide) (by decide)) fun r hr => ?_; obtain ⟨x, rfl, hx⟩ := hr); conv => whnf) | ((refine call_i (pick_ok [10000, 10001, -10000, -10001] (by decide) (by decide)) fun r hr => ?_; obtain ⟨x, rfl, hx⟩ := hr); conv => whnf) | ((with_reducible refine slc_e ?_); conv => whnf) | ((with_reducible refine callS_a ?_); conv => whnf) | ((with_reducible refine bld_a ?_); conv => whnf) | ((with_reducible refine own_e ?_); conv => whnf) | ((with_reducible refine mkmap_b ?_); conv => whnf) | (refine draw_i 8 plGL11g_0 (by decide +kernel) ?_; (conv => whnf); fail_if_success (guard_target =~ False)) | (refine draw_i 8 plGL11g_1 (by decide +kernel) ?_; (conv => whnf); fail_if_success (guard_target =~ False)) | (refine draw_i 8 plGL11g_0 (by decide +kernel) ?_; (conv => whnf); fail_if_success (guard_target =~ False)) | (refine draw_i 8 plGL11g_1 (by decide +kernel) ?_; (conv => whnf); fail_if_success (guard_target =~ False)) | (refine draw_i 8 plGL11g_0 (by decide +kernel) ?_; (conv => whnf); fail_if_success (guard_target =~ False)) | (refine draw_i 8 plGL11g_1 (by decide +kernel) ?_; (conv => whnf); fail_if_success (guard_target =~ False)) | (refine draw_i 12 plGL11g_2 (by decide +kernel) ?_; (conv => whnf); fail_if_success (guard_target =~ False)) | (refine draw_i 12 plGL11g_3 (by decide +kernel) ?_; (conv => whnf); fail_if_success (guard_target =~ False)) | (refine draw_i 9 plGL11g_4 (by decide +kernel) ?_; (conv => whnf); fail_if_success (guard_target =~ False)) | (refine draw_i 9 plGL11g_5 (by decide +kernel) ?_; (conv => whnf); fail_if_success (guard_target =~ False)) | ((with_reducible refine And.intro ?_ ?_) <;> (conv => whnf)) | (with_reducible exact trivial) | ((with_reducible refine branch_d (fun hq => ?_) (fun hq => ?_)) <;> (try (exfalso; omega)) <;> (conv => whnf)) | ((with_reducible refine branch_e (fun hq => ?_) (fun hq => ?_)) <;> (try (exfalso; omega)) <;> (conv => whnf)) | ((with_reducible refine branch_n (fun hq => ?_) (fun hq => ?_)) <;> (try (exfalso; omega)) <;> (conv => whnf)) | ((with_reducible refine branch_i (fun hq => ?_) (fun hq => ?_)) <;> (try (exfalso; omega)) <;> (conv => whnf))))
  · refine loop_i (fun ds : List Int => (ds.length : Int) ≤ k ∧ ∀ x ∈ ds, x ∈ coefL) (fun ds => mkSt [(0, .tape), (2, .int .i64 n), (6, .ptr 6 0), (7, .ptr 7 0), (8, .int .i64 k), (10, .int .i64 (m0 - rs.length)), (11, .ptr 11 0), (12, .int .i64 ds.length)] [(6, [.nil, .nil]), (7, [.own 7 3 1 (cs.map encI), .own 8 39 3 (rs.map encRow)]), (11, [.own 9 3 1 (ds.map encI), .int .i64 lo, .int .i64 hi])] true) (fun ds => k.toNat - ds.length) [] ⟨by simp; omega, by simp⟩ (Le.trans (le_adoptBox 11 0 9 3 1 rfl rfl) (le_mk (by repeat' (first | exact trivial | rfl | apply And.intro)) (by repeat' (first | exact trivial | rfl | apply And.intro)) rfl)) ?_
    rintro ds ⟨hdl, hds⟩
    have LD : (ds.map encI).length = ds.length := List.length_map ..
    (conv => whnf); (repeat' (first | (refine arith_i ⟨by omega, by omega⟩ ?_; conv => whnf) | (refine arith_u ⟨by omega, by omega⟩ ?_; conv => whnf) | (refine arith_8 ⟨by omega, by omega⟩ ?_; conv => whnf) | (refine need_i (by first | omega | (simp only [List.length_cons, List.length_nil]; omega) | (simp only [List.length_append, List.length_cons, List.length_nil, List.length_map, List.length_replicate, List.length_modify]; omega)) ?_; conv => whnf) | ((with_reducible refine branch_tt ?_); conv => whnf) | ((with_reducible refine branch_ff ?_); conv => whnf) | (with_reducible refine branch_not ?_) | ((refine call_i (pick_ok coefL (by decide) (by decide)) fun r hr => ?_; obtain ⟨x, rfl, hx⟩ := hr); conv => whnf) | ((with_reducible refine slc_e ?_); conv => whnf) | ((with_reducible refine callS_a ?_); conv => whnf) | ((with_reducible refine bld_a ?_); conv => whnf) | ((with_reducible refine own_e ?_); conv => whnf) | ((with_reducible refine mkmap_b ?_); conv => whnf) | (refine draw_i 8 plGL11g_0 (by decide +kernel) ?_; (conv => whnf); fail_if_success (guard_target =~ False)) | (refine draw_i 8 plGL11g_1 (by decide +kernel) ?_; (conv => whnf); fail_if_success (guard_target =~ False)) | (refine draw_i 8 plGL11g_0 (by decide +kernel) ?_; (conv => whnf); fail_if_success (guard_target =~ False)) | (refine draw_i 8 plGL11g_1 (by decide +kernel) ?_; (conv => whnf); fail_if_success (guard_target =~ False)) | (refine draw_i 8 plGL11g_0 (by decide +kernel) ?_; (conv => whnf); fail_if_success (guard_target =~ False)) | (refine draw_i 8 plGL11g_1 (by decide +kernel) ?_; (conv => whnf); fail_if_success (guard_target =~ False)) | (refine draw_i 12 plGL11g_2 (by decide +kernel) ?_; (conv => whnf); fail_if_success (guard_target =~ False)) | (refine draw_i 12 plGL11g_3 (by decide +kernel) ?_; (conv => whnf); fail_if_success (guard_target =~ False)) | (refine draw_i 9 plGL11g_4 (by decide +kernel) ?_; (conv => whnf); fail_if_success (guard_target =~ False)) | (refine draw_i 9 plGL11g_5 (by decide +kernel) ?_; (conv => whnf); fail_if_success (guard_target =~ False)) | ((with_reducible refine And.intro ?_ ?_) <;> (conv => whnf)) | (with_reducible exact trivial) | ((with_reducible refine branch_d (fun hq => ?_) (fun hq => ?_)) <;> (try (exfalso; omega)) <;> (conv => whnf)) | ((with_reducible refine branch_e (fun hq => ?_) (fun hq => ?_)) <;> (try (exfalso; omega)) <;> (conv => whnf)) | ((with_reducible refine branch_n (fun hq => ?_) (fun hq => ?_)) <;> (try (exfalso; omega)) <;> (conv => whnf)) | ((with_reducible refine branch_i (fun hq => ?_) (fun hq => ?_)) <;> (try (exfalso; omega)) <;> (conv => whnf))))
    · exact ⟨ds ++ [x], ⟨by simp; omega, snoc_in hds hx⟩, le_mk ⟨rfl, rfl, rfl, rfl, rfl, rfl, rfl, int_eq (by simp), trivial⟩ ⟨rfl, rfl, box_snoc (enc := encI) [] [.int .i64 lo, .int .i64 hi] x, trivial⟩ rfl, by simp; omega⟩
    · have ed : ds.length = cs.length := by omega
      refine ⟨rs ++ [⟨ds, lo, hi⟩], ⟨by simp; omega, snoc_in hrs ⟨ed, hds, hlo (by omega), hhi (by omega)⟩⟩, le_mk ⟨rfl, rfl, rfl, rfl, rfl, int_eq (by simp; omega), trivial⟩ ⟨rfl, ?_, trivial⟩ rfl, by simp; omega⟩
      exact box_snoc (enc := encRow) [.own 7 3 1 (cs.map encI)] [] (⟨ds, lo, hi⟩ : Row)
  · exact retM_i _ [] [] rfl (le_mk ⟨two_eq (by simp [encI]) rfl, trivial⟩ trivial rfl) rfl ⟨⟨cs ++ [x], rs⟩, ⟨rfl, rfl, rfl⟩, ⟨⟨by simp; omega, by show rs.length ≤ 10; omega, fun r hr => by have := (hrs r hr).1; omega⟩, by simp; omega, fun h => by omega⟩⟩
  · exact retM_i _ [] [] rfl (le_mk ⟨two_eq rfl (by simp only [List.map_append, List.map_cons, List.map_nil, encRow, ints, repl_enc]; rfl), trivial⟩ trivial rfl) rfl ⟨⟨cs, rs ++ [⟨List.replicate k.toNat 0, _, _⟩]⟩, ⟨rfl, rfl, rfl⟩, ⟨⟨by show cs.length ≤ 100; omega, by simp; omega, snoc_in (fun r hr => by have := (hrs r hr).1; omega) (by simp; omega)⟩, by show (cs.length : Int) ≤ _; omega, fun h => by omega⟩⟩
  · exact retM_i _ [] [] rfl (le_mk ⟨two_eq rfl (by simp only [List.map_append, List.map_cons, List.map_nil, encRow, ints, repl_enc]; rfl), trivial⟩ trivial rfl) rfl ⟨⟨cs, rs ++ [⟨List.replicate k.toNat 0, _, _⟩]⟩, ⟨rfl, rfl, rfl⟩, ⟨⟨by show cs.length ≤ 100; omega, by simp; omega, snoc_in (fun r hr => by have := (hrs r hr).1; omega) (by simp; omega)⟩, by show (cs.length : Int) ≤ _; omega, fun h => by omega⟩⟩
  · exact retM_i _ [] [] rfl (le_mk ⟨two_eq rfl (by simp only [List.map_append, List.map_cons, List.map_nil, encRow, ints, repl_enc]; rfl), trivial⟩ trivial rfl) rfl ⟨⟨cs, rs ++ [⟨List.replicate k.toNat 0, _, _⟩]⟩, ⟨rfl, rfl, rfl⟩, ⟨⟨by show cs.length ≤ 100; omega, by simp; omega, snoc_in (fun r hr => by have := (hrs r hr).1; omega) (by simp; omega)⟩, by show (cs.length : Int) ≤ _; omega, fun h => by omega⟩⟩
  · exact retM_i _ [] [] rfl (le_mk ⟨two_eq rfl (by simp only [List.map_append, List.map_cons, List.map_nil, encRow, ints, repl_enc]; rfl), trivial⟩ trivial rfl) rfl ⟨⟨cs, rs ++ [⟨List.replicate (k + 1).toNat 0, 0, 0⟩]⟩, ⟨rfl, rfl, rfl⟩, ⟨⟨by show cs.length ≤ 100; omega, by simp; omega, snoc_in (fun r hr => by have := (hrs r hr).1; omega) (by simp; omega)⟩, by show (cs.length : Int) ≤ _; omega, fun h => by omega⟩⟩
  · refine idx_i (by omega) (cs := [AV.int .i64 0]) (by rw [List.getElem?_replicate, if_pos (by omega)]) ?_
    (conv => whnf); (repeat' (first | (refine arith_i ⟨by omega, by omega⟩ ?_; conv => whnf) | (refine arith_u ⟨by omega, by omega⟩ ?_; conv => whnf) | (refine arith_8 ⟨by omega, by omega⟩ ?_; conv => whnf) | (refine need_i (by first | omega | (simp only [List.length_cons, List.length_nil]; omega) | (simp only [List.length_append, List.length_cons, List.length_nil, List.length_map, List.length_replicate, List.length_modify]; omega)) ?_; conv => whnf) | ((with_reducible refine branch_tt ?_); conv => whnf) | ((with_reducible refine branch_ff ?_); conv => whnf) | (with_reducible refine branch_not ?_) | ((with_reducible refine slc_e ?_); conv => whnf) | ((with_reducible refine callS_a ?_); conv => whnf) | ((with_reducible refine bld_a ?_); conv => whnf) | ((with_reducible refine own_e ?_); conv => whnf) | ((with_reducible refine mkmap_b ?_); conv => whnf) | (refine draw_i 8 plGL11g_0 (by decide +kernel) ?_; (conv => whnf); fail_if_success (guard_target =~ False)) | (refine draw_i 8 plGL11g_1 (by decide +kernel) ?_; (conv => whnf); fail_if_success (guard_target =~ False)) | (refine draw_i 8 plGL11g_0 (by decide +kernel) ?_; (conv => whnf); fail_if_success (guard_target =~ False)) | (refine draw_i 8 plGL11g_1 (by decide +kernel) ?_; (conv => whnf); fail_if_success (guard_target =~ False)) | (refine draw_i 8 plGL11g_0 (by decide +kernel) ?_; (conv => whnf); fail_if_success (guard_target =~ False)) | (refine draw_i 8 plGL11g_1 (by decide +kernel) ?_; (conv => whnf); fail_if_success (guard_target =~ False)) | (refine draw_i 12 plGL11g_2 (by decide +kernel) ?_; (conv => whnf); fail_if_success (guard_target =~ False)) | (refine draw_i 12 plGL11g_3 (by decide +kernel) ?_; (conv => whnf); fail_if_success (guard_target =~ False)) | (refine draw_i 9 plGL11g_4 (by decide +kernel) ?_; (conv => whnf); fail_if_success (guard_target =~ False)) | (refine draw_i 9 plGL11g_5 (by decide +kernel) ?_; (conv => whnf); fail_if_success (guard_target =~ False)) | ((with_reducible refine And.intro ?_ ?_) <;> (conv => whnf)) | (with_reducible exact trivial) | ((with_reducible refine branch_d (fun hq => ?_) (fun hq => ?_)) <;> (try (exfalso; omega)) <;> (conv => whnf)) | ((with_reducible refine branch_e (fun hq => ?_) (fun hq => ?_)) <;> (try (exfalso; omega)) <;> (conv => whnf)) | ((with_reducible refine branch_n (fun hq => ?_) (fun hq => ?_)) <;> (try (exfalso; omega)) <;> (conv => whnf)) | ((with_reducible refine branch_i (fun hq => ?_) (fun hq => ?_)) <;> (try (exfalso; omega)) <;> (conv => whnf))))
    exact retM_i _ [] [] rfl (le_mk ⟨two_eq rfl (by simp only [List.map_append, List.map_cons, List.map_nil, encRow, ints, repl_enc, encI_set]; rfl), trivial⟩ trivial rfl) rfl ⟨⟨cs, rs ++ [⟨(List.replicate k.toNat 0).set 0 x, 0, 1000000⟩]⟩, ⟨rfl, rfl, rfl⟩, ⟨⟨by show cs.length ≤ 100; omega, by simp; omega, snoc_in (fun r hr => by have := (hrs r hr).1; omega) (by simp; omega)⟩, by show (cs.length : Int) ≤ _; omega, fun h => by omega⟩⟩
  · exact retM_i _ [] [] rfl (le_mk ⟨two_eq rfl (by simp only [List.map_append, List.map_cons, List.map_nil, encRow, ints, repl_enc]; rfl), trivial⟩ trivial rfl) rfl ⟨⟨cs, rs ++ [⟨List.replicate k.toNat 0, 0, 1000000⟩]⟩, ⟨rfl, rfl, rfl⟩, ⟨⟨by show cs.length ≤ 100; omega, by simp; omega, snoc_in (fun r hr => by have := (hrs r hr).1; omega) (by simp; omega)⟩, by show (cs.length : Int) ≤ _; omega, fun h => by omega⟩⟩
  · refine loop_i (fun j : Nat => j ≤ 13) (fun j => mkSt [(0, .tape), (2, .int .i64 n), (6, .ptr 6 0), (7, .ptr 7 0), (14, .int .i64 j)] [(6, [.nil, .nil]), (7, [.own 7 3 1 ((cs ++ List.replicate j 1).map encI), .own 8 39 3 (rs.map encRow)])] true) (fun j => 13 - j) 0 (by omega) (by rw [show cs ++ List.replicate 0 1 = cs by simp]; exact (le_mk (by repeat' (first | exact trivial | rfl | apply And.intro)) (by repeat' (first | exact trivial | rfl | apply And.intro)) rfl)) ?_
    intro j hj
    have LJ : ((cs ++ List.replicate j (1 : Int)).map encI).length = cs.length + j := by simp
    (conv => whnf); (repeat' (first | (refine arith_i ⟨by omega, by omega⟩ ?_; conv => whnf) | (refine arith_u ⟨by omega, by omega⟩ ?_; conv => whnf) | (refine arith_8 ⟨by omega, by omega⟩ ?_; conv => whnf) | (refine need_i (by first | omega | (simp only [List.length_cons, List.length_nil]; omega) | (simp only [List.length_append, List.length_cons, List.length_nil, List.length_map, List.length_replicate, List.length_modify]; omega)) ?_; conv => whnf) | ((with_reducible refine branch_tt ?_); conv => whnf) | ((with_reducible refine branch_ff ?_); conv => whnf) | (with_reducible refine branch_not ?_) | ((with_reducible refine slc_e ?_); conv => whnf) | ((with_reducible refine callS_a ?_); conv => whnf) | ((with_reducible refine bld_a ?_); conv => whnf) | ((with_reducible refine own_e ?_); conv => whnf) | ((with_reducible refine mkmap_b ?_); conv => whnf) | (refine draw_i 8 plGL11g_0 (by decide +kernel) ?_; (conv => whnf); fail_if_success (guard_target =~ False)) | (refine draw_i 8 plGL11g_1 (by decide +kernel) ?_; (conv => whnf); fail_if_success (guard_target =~ False)) | (refine draw_i 8 plGL11g_0 (by decide +kernel) ?_; (conv => whnf); fail_if_success (guard_target =~ False)) | (refine draw_i 8 plGL11g_1 (by decide +kernel) ?_; (conv => whnf); fail_if_success (guard_target =~ False)) | (refine draw_i 8 plGL11g_0 (by decide +kernel) ?_; (conv => whnf); fail_if_success (guard_target =~ False)) | (refine draw_i 8 plGL11g_1 (by decide +kernel) ?_; (conv => whnf); fail_if_success (guard_target =~ False)) | (refine draw_i 12 plGL11g_2 (by decide +kernel) ?_; (conv => whnf); fail_if_success (guard_target =~ False)) | (refine draw_i 12 plGL11g_3 (by decide +kernel) ?_; (conv => whnf); fail_if_success (guard_target =~ False)) | (refine draw_i 9 plGL11g_4 (by decide +kernel) ?_; (conv => whnf); fail_if_success (guard_target =~ False)) | (refine draw_i 9 plGL11g_5 (by decide +kernel) ?_; (conv => whnf); fail_if_success (guard_target =~ False)) | ((with_reducible refine And.intro ?_ ?_) <;> (conv => whnf)) | (with_reducible exact trivial) | ((with_reducible refine branch_d (fun hq => ?_) (fun hq => ?_)) <;> (try (exfalso; omega)) <;> (conv => whnf)) | ((with_reducible refine branch_e (fun hq => ?_) (fun hq => ?_)) <;> (try (exfalso; omega)) <;> (conv => whnf)) | ((with_reducible refine branch_n (fun hq => ?_) (fun hq => ?_)) <;> (try (exfalso; omega)) <;> (conv => whnf)) | ((with_reducible refine branch_i (fun hq => ?_) (fun hq => ?_)) <;> (try (exfalso; omega)) <;> (conv => whnf))))
    · have e : (cs ++ List.replicate (j + 1) (1 : Int)).map encI = (cs ++ List.replicate j 1).map encI ++ [[AV.int .i64 1]] := by
        rw [List.replicate_succ', ← List.append_assoc, List.map_append]; rfl
      exact ⟨j + 1, by omega, by rw [e]; exact (le_mk (by repeat' (first | exact trivial | rfl | apply And.intro)) (by repeat' (first | exact trivial | rfl | apply And.intro)) rfl), by omega⟩
    · exact retM_i _ [] [] rfl (le_mk ⟨two_eq rfl rfl, trivial⟩ trivial rfl) rfl ⟨⟨cs ++ List.replicate j 1, rs⟩, ⟨rfl, rfl, rfl⟩, ⟨⟨by simp; omega, by show rs.length ≤ 10; omega, fun r hr => by have := (hrs r hr).1; omega⟩, by simp; omega, fun h => by omega⟩⟩
  · exact retM_i _ [] [] rfl (le_mk ⟨two_eq rfl rfl, trivial⟩ trivial rfl) rfl ⟨⟨cs, rs⟩, ⟨rfl, rfl, rfl⟩, ⟨⟨by show cs.length ≤ 100; omega, by show rs.length ≤ 10; omega, fun r hr => by have := (hrs r hr).1; omega⟩, by show (cs.length : Int) ≤ _; omega, fun h => by omega⟩⟩
  · exact retM_i _ [] [] rfl (le_mk ⟨two_eq rfl rfl, trivial⟩ trivial rfl) rfl ⟨⟨cs, rs⟩, ⟨rfl, rfl, rfl⟩, ⟨⟨by show cs.length ≤ 100; omega, by show rs.length ≤ 10; omega, fun r hr => by have := (hrs r hr).1; omega⟩, by show (cs.length : Int) ≤ _; omega, fun h => ⟨by show (cs.length : Int) ≤ _; omega, hcs, by show rs.length ≤ 3; omega, hrs⟩⟩⟩
end Go.Proofs.Ytengafkfgcdpeaa
end

/- Layer 11: Assemble of the reference. -/
section
namespace Go.Proofs.Ytengafkfgcdpeaa
set_option linter.unusedVariables false
set_option linter.unusedSimpArgs false
set_option linter.unnecessarySimpa false
set_option linter.unusedSectionVars false
set_option maxRecDepth 10000
open Go.RowKit
theorem rplan_res {P : Prog} {an us : List Int} (h : resE P an us = 0) : Good Try.prog TT false 66 [progV (resP P an us)] (· = planV ⟨(bestR P an us).1, (bestR P an us).2.2, (bestR P an us).2.1, []⟩) := by
  obtain ⟨h1, h2, h3, h4⟩ := resE_zero h
  have e : resP P an us = ⟨P.costs, resRows P an us⟩ := by rw [resP, if_pos h]
  rw [e]
  exact rPlan_ok ⟨P.costs, resRows P an us⟩ (res_valid h1 h4)
theorem encBl_set {bs : List Bool} {i : Nat} : (bs.map encBl).modify i (fun x => x.set 0 (.bool true)) = (bs.set i true).map encBl := by
  apply List.ext_getElem?
  intro j
  rw [List.getElem?_modify, List.getElem?_map, List.getElem?_map, List.getElem?_set]
  by_cases h : i = j
  · subst h
    rcases Nat.lt_or_ge i bs.length with h2 | h2
    · simp [h2, encBl]
    · simp [List.getElem?_eq_none h2, Nat.not_lt.2 h2]
  · simp [h]
set_option maxHeartbeats 4000000 in
theorem rAssemble_ok (P : Prog) (an : List Int) (k : Int) (hP : Fits P) (ha : an.length ≤ 9223372036854775807) : Good Try.prog TT false 37 [progV P, ints an, .int .i64 k] (· = asmV P an k false) := by
  have LC : (P.costs.map encI).length = P.costs.length := List.length_map ..
  have hP1 := hP.1
  refine good_of mixed tabOk Try.func37 rfl rfl Try.ntmps37 Try.results37 rfl rfl ?_
  (conv => whnf); (repeat' (first | (refine arith_i ⟨by omega, by omega⟩ ?_; conv => whnf) | (refine arith_u ⟨by omega, by omega⟩ ?_; conv => whnf) | (refine arith_8 ⟨by omega, by omega⟩ ?_; conv => whnf) | (refine need_i (by first | omega | (simp only [List.length_cons, List.length_nil]; omega) | (simp only [List.length_append, List.length_cons, List.length_nil, List.length_map, List.length_replicate, List.length_modify]; omega)) ?_; conv => whnf) | ((with_reducible refine branch_tt ?_); conv => whnf) | ((with_reducible refine branch_ff ?_); conv => whnf) | (with_reducible refine branch_not ?_) | ((refine call_e (rValid_ok P hP) ?_); conv => whnf) | (((rw [LC]; refine call_e (rChoice_any an P.costs.length ha hP.1) ?_)); conv => whnf) | ((with_reducible refine slc_e ?_); conv => whnf) | ((with_reducible refine callS_a ?_); conv => whnf) | ((with_reducible refine bld_a ?_); conv => whnf) | ((with_reducible refine own_e ?_); conv => whnf) | ((with_reducible refine mkmap_b ?_); conv => whnf) | ((with_reducible refine branch_d (fun hq => ?_) (fun hq => ?_)) <;> (try (exfalso; omega)) <;> (conv => whnf)) | ((with_reducible refine branch_e (fun hq => ?_) (fun hq => ?_)) <;> (try (exfalso; omega)) <;> (conv => whnf)) | ((with_reducible refine branch_n (fun hq => ?_) (fun hq => ?_)) <;> (try (exfalso; omega)) <;> (conv => whnf)) | ((with_reducible refine branch_i (fun hq => ?_) (fun hq => ?_)) <;> (try (exfalso; omega)) <;> (conv => whnf))))
  all_goals first
    | exact asm_err (e := 1) (by rw [asmP, if_pos (by assumption)])
    | exact asm_err (e := 2) (by rw [asmP, if_neg (by simp [*]), if_pos (by simp [*])])
    | exact asm_err (e := 2) (by rw [asmP, if_neg (by simp [*]), if_pos (by omega)])
    | skip
  have hv : validB P = true := by assumption
  have ha2 : choiceB an P.costs.length = true := by assumption
  have hn12 := (validB_parts hv).1
  refine loop_i3 (fun (v : Nat) (us : List Int) (acc : List Pln) => v ≤ k.toNat ∧ Asc 0 P.costs.length us ∧ acc.length = v ∧ asmF P an false (k.toNat - v) us acc = asmF P an false k.toNat [] []) (fun v us acc => mkSt [(1, ints an), (2, .int .i64 k), (3, .ptr 3 0), (8, .int .i64 P.costs.length), (9, .own 901 55 4 (acc.map encPl)), (10, .own 37 4 1 ((flagsU P.costs.length us).map encBl)), (11, .int .i64 v)] [(3, [ints P.costs, rowsV P.rows])] false) (fun v _ _ => k.toNat - v) 0 [] [] ⟨Nat.zero_le _, ⟨List.Pairwise.nil, by simp⟩, rfl, rfl⟩ (Le.trans (le_adopt 9 901 55 4 rfl) (by rw [flagsU_nil, List.map_replicate]; exact (le_mk (by repeat' (first | exact trivial | rfl | apply And.intro)) (by repeat' (first | exact trivial | rfl | apply And.intro)) rfl))) ?_
  rintro v us acc ⟨hvk, hu, hacc, hgo⟩
  have hul := asc_len12 hv hu
  have LA : (acc.map encPl).length = acc.length := List.length_map ..
  have LF : ((flagsU P.costs.length us).map encBl).length = P.costs.length := by rw [List.length_map, flagsU_len]
  (conv => whnf); (repeat' (first | (refine arith_i ⟨by omega, by omega⟩ ?_; conv => whnf) | (refine arith_u ⟨by omega, by omega⟩ ?_; conv => whnf) | (refine arith_8 ⟨by omega, by omega⟩ ?_; conv => whnf) | (refine need_i (by first | omega | (simp only [List.length_cons, List.length_nil]; omega) | (simp only [List.length_append, List.length_cons, List.length_nil, List.length_map, List.length_replicate, List.length_modify]; omega)) ?_; conv => whnf) | ((with_reducible refine branch_tt ?_); conv => whnf) | ((with_reducible refine branch_ff ?_); conv => whnf) | (with_reducible refine branch_not ?_) | ((with_reducible refine slc_e ?_); conv => whnf) | ((with_reducible refine callS_a ?_); conv => whnf) | ((with_reducible refine bld_a ?_); conv => whnf) | ((with_reducible refine own_e ?_); conv => whnf) | ((with_reducible refine mkmap_b ?_); conv => whnf) | ((with_reducible refine branch_d (fun hq => ?_) (fun hq => ?_)) <;> (try (exfalso; omega)) <;> (conv => whnf)) | ((with_reducible refine branch_e (fun hq => ?_) (fun hq => ?_)) <;> (try (exfalso; omega)) <;> (conv => whnf)) | ((with_reducible refine branch_n (fun hq => ?_) (fun hq => ?_)) <;> (try (exfalso; omega)) <;> (conv => whnf)) | ((with_reducible refine branch_i (fun hq => ?_) (fun hq => ?_)) <;> (try (exfalso; omega)) <;> (conv => whnf))))
  · refine loop_i (fun i : Nat => i ≤ P.costs.length) (fun i => mkSt [(1, ints an), (2, .int .i64 k), (3, .ptr 3 0), (8, .int .i64 P.costs.length), (9, .own 901 55 4 (acc.map encPl)), (10, .own 37 4 1 ((flagsU P.costs.length us).map encBl)), (11, .int .i64 v), (12, .own 902 3 1 ((usedL i us).map encI)), (13, .int .i64 i)] [(3, [ints P.costs, rowsV P.rows])] false) (fun i => P.costs.length - i) 0 (Nat.zero_le _) (Le.trans (le_adopt 12 902 3 1 rfl) (le_mk (by repeat' (first | exact trivial | rfl | apply And.intro)) (by repeat' (first | exact trivial | rfl | apply And.intro)) rfl)) ?_
    intro i hi
    have LU := usedL_len (i := i) (us := us)
    have hun := usedL_next (i := i) (us := us)
    (conv => whnf); (repeat' (first | (refine arith_i ⟨by omega, by omega⟩ ?_; conv => whnf) | (refine arith_u ⟨by omega, by omega⟩ ?_; conv => whnf) | (refine arith_8 ⟨by omega, by omega⟩ ?_; conv => whnf) | (refine need_i (by first | omega | (simp only [List.length_cons, List.length_nil]; omega) | (simp only [List.length_append, List.length_cons, List.length_nil, List.length_map, List.length_replicate, List.length_modify]; omega)) ?_; conv => whnf) | ((with_reducible refine branch_tt ?_); conv => whnf) | ((with_reducible refine branch_ff ?_); conv => whnf) | (with_reducible refine branch_not ?_) | ((refine idx_ms (enc := encBl) (x := hasB us (i : Int)) (by omega) (by rw [Int.toNat_natCast]; exact flagsU_at (by omega)) ?_); conv => whnf) | (((have hin : usedL i us = us := (by rw [show i = P.costs.length by omega]; exact usedL_self hu); rw [hin]; refine call_e (rRestrict_ok P an us hP ha (by omega)) ?_)); conv => whnf) | (((have hz : resE P an us = 0 := (by omega); obtain ⟨hb1, hb2⟩ := best_in hz; have LB : ((bestR P an us).2.2.map encI).length = (bestR P an us).2.2.length := (List.length_map ..); refine call_e (rplan_res hz) ?_)); conv => whnf) | ((with_reducible refine slc_e ?_); conv => whnf) | ((with_reducible refine callS_a ?_); conv => whnf) | ((with_reducible refine bld_a ?_); conv => whnf) | ((with_reducible refine own_e ?_); conv => whnf) | ((with_reducible refine mkmap_b ?_); conv => whnf) | ((with_reducible refine branch_d (fun hq => ?_) (fun hq => ?_)) <;> (try (exfalso; omega)) <;> (conv => whnf)) | ((with_reducible refine branch_e (fun hq => ?_) (fun hq => ?_)) <;> (try (exfalso; omega)) <;> (conv => whnf)) | ((with_reducible refine branch_n (fun hq => ?_) (fun hq => ?_)) <;> (try (exfalso; omega)) <;> (conv => whnf)) | ((with_reducible refine branch_i (fun hq => ?_) (fun hq => ?_)) <;> (try (exfalso; omega)) <;> (conv => whnf))))
    · rw [if_pos hq] at hun
      exact ⟨i + 1, by omega, by rw [hun, List.map_append]; exact (le_mk (by repeat' (first | exact trivial | rfl | apply And.intro)) (by repeat' (first | exact trivial | rfl | apply And.intro)) rfl), by omega⟩
    · rw [if_neg (by rw [hq]; decide), List.append_nil] at hun
      exact ⟨i + 1, by omega, by rw [hun]; exact (le_mk (by repeat' (first | exact trivial | rfl | apply And.intro)) (by repeat' (first | exact trivial | rfl | apply And.intro)) rfl), by omega⟩
    · refine asm_err (e := resE P an us) ?_
      have hm : k.toNat - v = (k.toNat - v - 1) + 1 := by omega
      rw [asmP, if_neg (by simp [*]), if_neg (by simp [*]), ← hgo, hm, asmF, if_pos (by assumption)]
    · have hf : (bestR P an us).1 = true := by assumption
      have hba := hb2 hf
      refine loop_i (fun j : Nat => j ≤ (bestR P an us).2.2.length) (fun j => mkSt [(1, ints an), (2, .int .i64 k), (3, .ptr 3 0), (8, .int .i64 P.costs.length), (9, .own 901 55 4 (acc.map encPl)), (10, .own 37 4 1 ((flagsU P.costs.length (us ++ (bestR P an us).2.2.take j)).map encBl)), (11, .int .i64 v), (16, .ptr 16 0), (17, .int .i64 j)] [(3, [ints P.costs, rowsV P.rows]), (16, [.bool (bestR P an us).1, ints (bestR P an us).2.2, .int .i64 (bestR P an us).2.1, .lst 7 []])] false) (fun j => (bestR P an us).2.2.length - j) 0 (Nat.zero_le _) (le_mk ⟨rfl, rfl, rfl, rfl, rfl, congrArg (fun x => AV.own 37 4 1 ((flagsU P.costs.length x).map encBl)) (show us = us ++ (bestR P an us).2.2.take 0 by simp), rfl, rfl, rfl, trivial⟩ ⟨rfl, rfl, trivial⟩ rfl) ?_
      intro j hj
      have LG : ((flagsU P.costs.length (us ++ (bestR P an us).2.2.take j)).map encBl).length = P.costs.length := by rw [List.length_map, flagsU_len]
      (conv => whnf); (repeat' (first | (refine arith_i ⟨by omega, by omega⟩ ?_; conv => whnf) | (refine arith_u ⟨by omega, by omega⟩ ?_; conv => whnf) | (refine arith_8 ⟨by omega, by omega⟩ ?_; conv => whnf) | (refine need_i (by first | omega | (simp only [List.length_cons, List.length_nil]; omega) | (simp only [List.length_append, List.length_cons, List.length_nil, List.length_map, List.length_replicate, List.length_modify]; omega)) ?_; conv => whnf) | ((with_reducible refine branch_tt ?_); conv => whnf) | ((with_reducible refine branch_ff ?_); conv => whnf) | (with_reducible refine branch_not ?_) | ((refine idx_cs (by assumption) ?_); conv => whnf) | (((refine idx_c (xs := (bestR P an us).2.2) (by omega) fun c hcc => ?_; have hci := hba.2 c (List.mem_of_getElem? hcc))); conv => whnf) | (((refine idx_ms (enc := encBl) (x := hasB (us ++ (bestR P an us).2.2.take j) (c.toNat : Int)) (by omega) (flagsU_at (by omega)) ?_)); conv => whnf) | ((with_reducible refine slc_e ?_); conv => whnf) | ((with_reducible refine callS_a ?_); conv => whnf) | ((with_reducible refine bld_a ?_); conv => whnf) | ((with_reducible refine own_e ?_); conv => whnf) | ((with_reducible refine mkmap_b ?_); conv => whnf) | ((with_reducible refine branch_d (fun hq => ?_) (fun hq => ?_)) <;> (try (exfalso; omega)) <;> (conv => whnf)) | ((with_reducible refine branch_e (fun hq => ?_) (fun hq => ?_)) <;> (try (exfalso; omega)) <;> (conv => whnf)) | ((with_reducible refine branch_n (fun hq => ?_) (fun hq => ?_)) <;> (try (exfalso; omega)) <;> (conv => whnf)) | ((with_reducible refine branch_i (fun hq => ?_) (fun hq => ?_)) <;> (try (exfalso; omega)) <;> (conv => whnf))))
      · refine ⟨j + 1, by omega, ?_, by omega⟩
        rw [List.take_add_one, hcc, ← List.append_assoc]
        refine le_mk ⟨rfl, rfl, rfl, rfl, rfl, ?_, rfl, rfl, rfl, trivial⟩ ⟨rfl, rfl, trivial⟩ rfl
        exact congrArg (AV.own 37 4 1) (encBl_set.trans (by rw [flagsU_set (by omega)]; rfl))
      · have hm : k.toNat - v = (k.toNat - (v + 1)) + 1 := by omega
        have hjj : (bestR P an us).2.2.take j = (bestR P an us).2.2 := List.take_of_length_le (by omega)
        have h8 : acc.map encPl ++ [[AV.bool (bestR P an us).1, ints (bestR P an us).2.2, .int .i64 (bestR P an us).2.1, .lst 7 []]] = (acc ++ [planR P an us false]).map encPl := by
          rw [hf, List.map_append]; rfl
        refine ⟨v + 1, nextU P an us, acc ++ [planR P an us false], ⟨by omega, usedL_asc, by simp; omega, ?_⟩, le_mk ⟨rfl, rfl, rfl, rfl, congrArg (AV.own 901 55 4) h8, congrArg (fun x => AV.own 37 4 1 (List.map encBl x)) (by rw [hjj]; exact flagsU_used.symm), rfl, trivial⟩ ⟨rfl, trivial⟩ rfl, by omega⟩
        rw [← hgo, hm, asmF, if_neg (by omega), if_neg (by rw [hf]; decide)]
    · have hf : (bestR P an us).1 = false := by assumption
      have hm : k.toNat - v = (k.toNat - (v + 1)) + 1 := by omega
      refine asm_err (e := 10) ?_
      rw [asmP, if_neg (by simp [*]), if_neg (by simp [*]), ← hgo, hm, asmF, if_neg (by omega), if_pos hf]
  · refine ret_t (rs := [plsV acc, .int .i64 0]) ⟨rc_o.g, (rc_p rfl).g, trivial⟩ ?_
    have hm : k.toNat - v = 0 := by omega
    rw [asmV, asmP, if_neg (by simp [*]), if_neg (by simp [*]), ← hgo, hm, asmF]
end Go.Proofs.Ytengafkfgcdpeaa
end

/- Layer 11: the generator of programs for several variants. -/
section
namespace Go.Proofs.Ytengafkfgcdpeaa
set_option linter.unusedVariables false
set_option linter.unusedSimpArgs false
set_option linter.unnecessarySimpa false
set_option linter.unusedSectionVars false
set_option maxRecDepth 10000
open Go.RowKit
def plGL11j_0 : Plan := (.take 0 (.take 1 (.take 2 (.take 3 (.take 4 (.take 5 (.take 6 (.take 7 (.take 8 (.take 9 (.take 10 (.take 11 (.altE 12 .done .stop)))))))))))))
def plGL11j_1 : Plan := (.take 0 (.take 1 (.take 2 (.take 3 (.take 4 (.take 5 (.take 6 (.take 7 (.alt 8 (.take 9 (.take 10 (.take 11 (.altE 12 .done .stop)))) .stop)))))))))
def plGL11j_2 : Plan := (.take 0 (.take 2 (.take 3 (.take 5 (.alt 1 (.alt 4 (.take 6 (.take 7 (.alt 8 (.take 9 (.take 10 (.take 11 (.alt 12 .done .stop)))) .stop))) .stop) (.alt 4 (.take 6 (.take 7 (.alt 1 (.alt 8 (.take 9 (.take 10 (.take 11 (.alt 12 .done .stop)))) .stop) (.alt 8 (.take 9 (.alt 1 (.take 10 (.take 11 (.alt 12 .done .stop))) .stop)) .stop)))) .stop))))))
def plGL11j_3 : Plan := (.take 1 (.take 2 (.alt 0 (.alt 3 (.alt 4 (.take 5 (.take 6 .done)) .stop) .stop) (.alt 3 (.alt 0 (.alt 4 (.take 5 (.take 6 .done)) .stop) .stop) .stop))))
def FewR (r : AV) (ov : List (Nat × AV)) (bx : List (Nat × List AV)) : Prop :=
  ∃ (P : Prog) (an : List Int) (k : Int), (r = .tup [progO 807 808 P, .own 809 3 1 (an.map encI), .int .i64 k] ∧ ov = [] ∧ bx = []) ∧ Small P ∧ an.length ≤ 30 ∧ 1 ≤ k ∧ k ≤ 3
theorem encRow_least {rs : List Row} {k : Nat} {v : Int} : (rs.map encRow).modify k (fun x => x.set 1 (.int .i64 v)) = (rs.modify k fun r => ⟨r.coefs, v, r.most⟩).map encRow := by
  apply List.ext_getElem?
  intro j
  rw [List.getElem?_modify, List.getElem?_map, List.getElem?_map, List.getElem?_modify]
  by_cases h : k = j
  · subst h
    cases rs[k]? <;> simp [encRow]
  · simp [h]
theorem least_small {rs : List Row} {k : Nat} {v : Int} (h : ∀ r ∈ rs, r.coefs.length ≤ 100) : ∀ r ∈ rs.modify k (fun r => (⟨r.coefs, v, r.most⟩ : Row)), r.coefs.length ≤ 100 := fun r hr => by
  obtain ⟨i, hi⟩ := List.getElem?_of_mem hr
  rw [List.getElem?_modify] at hi
  cases hx : rs[i]? with
  | none => rw [hx] at hi; simp at hi
  | some x =>
    rw [hx] at hi
    have := h x (List.mem_of_getElem? hx)
    by_cases e : k = i
    · simp [e] at hi; subst hi; exact this
    · simp [e] at hi; subst hi; exact this
set_option maxHeartbeats 4000000 in
theorem fewM_ok : GoodM Try.prog TT true 24 [.tape] [] FewR := by
  refine good_of_m (fun _ => false) mixed tabOk Try.func24 rfl rfl Try.ntmps24 Try.results24 rfl rfl ?_
  (conv => whnf); (repeat' (first | (refine arith_i ⟨by omega, by omega⟩ ?_; conv => whnf) | (refine arith_u ⟨by omega, by omega⟩ ?_; conv => whnf) | (refine arith_8 ⟨by omega, by omega⟩ ?_; conv => whnf) | (refine need_i (by first | omega | (simp only [List.length_cons, List.length_nil]; omega) | (simp only [List.length_append, List.length_cons, List.length_nil, List.length_map, List.length_replicate, List.length_modify]; omega)) ?_; conv => whnf) | ((with_reducible refine branch_tt ?_); conv => whnf) | ((with_reducible refine branch_ff ?_); conv => whnf) | (with_reducible refine branch_not ?_) | (((refine acall_m ?_; refine rcall_i [] [] [] [(7, 807), (8, 808)] _ Le.refl (programM_any 6 10 (by omega) (by omega)) rfl rfl rfl rfl trivial ?_; rintro r ov bx' ⟨P, ⟨rfl, rfl, rfl⟩, hP, hPc, -⟩; refine ⟨rfl, ?_⟩)); conv => whnf) | ((with_reducible refine slc_e ?_); conv => whnf) | ((with_reducible refine callS_a ?_); conv => whnf) | ((with_reducible refine bld_a ?_); conv => whnf) | ((with_reducible refine own_e ?_); conv => whnf) | ((with_reducible refine mkmap_b ?_); conv => whnf) | (refine draw_i 13 plGL11j_0 (by decide +kernel) ?_; (conv => whnf); fail_if_success (guard_target =~ False)) | (refine draw_i 13 plGL11j_1 (by decide +kernel) ?_; (conv => whnf); fail_if_success (guard_target =~ False)) | (refine draw_i 10 plGL11j_2 (by decide +kernel) ?_; (conv => whnf); fail_if_success (guard_target =~ False)) | (refine draw_i 0 plGL11j_3 (by decide +kernel) ?_; (conv => whnf); fail_if_success (guard_target =~ False)) | ((with_reducible refine And.intro ?_ ?_) <;> (conv => whnf)) | (with_reducible exact trivial) | ((with_reducible refine branch_d (fun hq => ?_) (fun hq => ?_)) <;> (try (exfalso; omega)) <;> (conv => whnf)) | ((with_reducible refine branch_e (fun hq => ?_) (fun hq => ?_)) <;> (try (exfalso; omega)) <;> (conv => whnf)) | ((with_reducible refine branch_n (fun hq => ?_) (fun hq => ?_)) <;> (try (exfalso; omega)) <;> (conv => whnf)) | ((with_reducible refine branch_i (fun hq => ?_) (fun hq => ?_)) <;> (try (exfalso; omega)) <;> (conv => whnf))))
  obtain ⟨hP1, hP2, hP3⟩ := hP
  refine loop_i2 (fun (k : Nat) (rs : List Row) => k ≤ rs.length ∧ rs.length = P.rows.length ∧ ∀ r ∈ rs, r.coefs.length ≤ 100) (fun k rs => mkSt [(0, .tape), (2, .ptr 2 0), (5, .ptr 5 0), (6, .int .i64 k)] [(2, [.nil, .nil]), (5, [.own 807 3 1 (P.costs.map encI), .own 808 39 3 (rs.map encRow)])] true) (fun k _ => P.rows.length - k) 0 P.rows ⟨Nat.zero_le _, rfl, hP3⟩ (le_mk (by repeat' (first | exact trivial | rfl | apply And.intro)) (by repeat' (first | exact trivial | rfl | apply And.intro)) rfl) ?_
  rintro k rs ⟨hk, hrl, hrc⟩
  have LR : (rs.map encRow).length = rs.length := List.length_map ..
  (conv => whnf); (repeat' (first | (refine arith_i ⟨by omega, by omega⟩ ?_; conv => whnf) | (refine arith_u ⟨by omega, by omega⟩ ?_; conv => whnf) | (refine arith_8 ⟨by omega, by omega⟩ ?_; conv => whnf) | (refine need_i (by first | omega | (simp only [List.length_cons, List.length_nil]; omega) | (simp only [List.length_append, List.length_cons, List.length_nil, List.length_map, List.length_replicate, List.length_modify]; omega)) ?_; conv => whnf) | ((with_reducible refine branch_tt ?_); conv => whnf) | ((with_reducible refine branch_ff ?_); conv => whnf) | (with_reducible refine branch_not ?_) | ((refine idx_cs (by assumption) ?_); conv => whnf) | (((refine idx_c (xs := rs) (by omega) fun r hrr => ?_)); conv => whnf) | ((with_reducible refine slc_e ?_); conv => whnf) | ((with_reducible refine callS_a ?_); conv => whnf) | ((with_reducible refine bld_a ?_); conv => whnf) | ((with_reducible refine own_e ?_); conv => whnf) | ((with_reducible refine mkmap_b ?_); conv => whnf) | (refine draw_i 13 plGL11j_1 (by decide +kernel) ?_; (conv => whnf); fail_if_success (guard_target =~ False)) | (refine draw_i 10 plGL11j_2 (by decide +kernel) ?_; (conv => whnf); fail_if_success (guard_target =~ False)) | (refine draw_i 13 plGL11j_0 (by decide +kernel) ?_; (conv => whnf); fail_if_success (guard_target =~ False)) | (refine draw_i 0 plGL11j_3 (by decide +kernel) ?_; (conv => whnf); fail_if_success (guard_target =~ False)) | ((with_reducible refine And.intro ?_ ?_) <;> (conv => whnf)) | (with_reducible exact trivial) | ((with_reducible refine branch_d (fun hq => ?_) (fun hq => ?_)) <;> (try (exfalso; omega)) <;> (conv => whnf)) | ((with_reducible refine branch_e (fun hq => ?_) (fun hq => ?_)) <;> (try (exfalso; omega)) <;> (conv => whnf)) | ((with_reducible refine branch_n (fun hq => ?_) (fun hq => ?_)) <;> (try (exfalso; omega)) <;> (conv => whnf)) | ((with_reducible refine branch_i (fun hq => ?_) (fun hq => ?_)) <;> (try (exfalso; omega)) <;> (conv => whnf))))
  · refine ⟨k + 1, rs.modify k (fun r' => ⟨r'.coefs, if 2 < r.least then 2 else r.least, r'.most⟩), ⟨by simp; omega, by simp; omega, least_small hrc⟩, le_mk ⟨rfl, rfl, rfl, rfl, trivial⟩ ⟨rfl, ?_, trivial⟩ rfl, by omega⟩
    exact congrArg (fun x => some [AV.own 807 3 1 (P.costs.map encI), .own 808 39 3 x]) encRow_least
  have LC : (P.costs.map encI).length = P.costs.length := List.length_map ..
  refine loop_i2 (fun (i : Nat) (an : List Int) => i ≤ P.costs.length ∧ an.length ≤ i) (fun i an => mkSt [(0, .tape), (2, .ptr 2 0), (5, .ptr 5 0), (7, .own 809 3 1 (an.map encI)), (8, .int .i64 i)] [(2, [.nil, .nil]), (5, [.own 807 3 1 (P.costs.map encI), .own 808 39 3 (rs.map encRow)])] true) (fun i _ => P.costs.length - i) 0 [] ⟨Nat.zero_le _, by simp⟩ (Le.trans (le_adopt 7 809 3 1 rfl) (le_mk (by repeat' (first | exact trivial | rfl | apply And.intro)) (by repeat' (first | exact trivial | rfl | apply And.intro)) rfl)) ?_
  rintro i an ⟨hi, han⟩
  have LN : (an.map encI).length = an.length := List.length_map ..
  (conv => whnf); (repeat' (first | (refine arith_i ⟨by omega, by omega⟩ ?_; conv => whnf) | (refine arith_u ⟨by omega, by omega⟩ ?_; conv => whnf) | (refine arith_8 ⟨by omega, by omega⟩ ?_; conv => whnf) | (refine need_i (by first | omega | (simp only [List.length_cons, List.length_nil]; omega) | (simp only [List.length_append, List.length_cons, List.length_nil, List.length_map, List.length_replicate, List.length_modify]; omega)) ?_; conv => whnf) | ((with_reducible refine branch_tt ?_); conv => whnf) | ((with_reducible refine branch_ff ?_); conv => whnf) | (with_reducible refine branch_not ?_) | (((refine call_i (one_ok 4 (by omega)) fun r hr => ?_; obtain ⟨b1, rfl⟩ := hr)); conv => whnf) | (((refine call_i (range_ok 1 3 (by omega) (by omega)) fun r hr => ?_; obtain ⟨m1, rfl, h1, h3⟩ := hr; have hm1 := h3 (by omega))); conv => whnf) | ((with_reducible refine slc_e ?_); conv => whnf) | ((with_reducible refine callS_a ?_); conv => whnf) | ((with_reducible refine bld_a ?_); conv => whnf) | ((with_reducible refine own_e ?_); conv => whnf) | ((with_reducible refine mkmap_b ?_); conv => whnf) | (refine draw_i 13 plGL11j_1 (by decide +kernel) ?_; (conv => whnf); fail_if_success (guard_target =~ False)) | (refine draw_i 10 plGL11j_2 (by decide +kernel) ?_; (conv => whnf); fail_if_success (guard_target =~ False)) | (refine draw_i 13 plGL11j_0 (by decide +kernel) ?_; (conv => whnf); fail_if_success (guard_target =~ False)) | (refine draw_i 0 plGL11j_3 (by decide +kernel) ?_; (conv => whnf); fail_if_success (guard_target =~ False)) | ((with_reducible refine And.intro ?_ ?_) <;> (conv => whnf)) | (with_reducible exact trivial) | ((with_reducible refine branch_d (fun hq => ?_) (fun hq => ?_)) <;> (try (exfalso; omega)) <;> (conv => whnf)) | ((with_reducible refine branch_e (fun hq => ?_) (fun hq => ?_)) <;> (try (exfalso; omega)) <;> (conv => whnf)) | ((with_reducible refine branch_n (fun hq => ?_) (fun hq => ?_)) <;> (try (exfalso; omega)) <;> (conv => whnf)) | ((with_reducible refine branch_i (fun hq => ?_) (fun hq => ?_)) <;> (try (exfalso; omega)) <;> (conv => whnf))))
  · exact ⟨i + 1, an ++ [(i : Int)], ⟨by omega, by simp; omega⟩, by rw [← snocI']; exact (le_mk (by repeat' (first | exact trivial | rfl | apply And.intro)) (by repeat' (first | exact trivial | rfl | apply And.intro)) rfl), by omega⟩
  · exact ⟨i + 1, an, ⟨by omega, by omega⟩, (le_mk (by repeat' (first | exact trivial | rfl | apply And.intro)) (by repeat' (first | exact trivial | rfl | apply And.intro)) rfl), by omega⟩
  all_goals exact retM_i _ [] [] rfl (le_mk (by repeat' (first | exact trivial | rfl | apply And.intro)) (by repeat' (first | exact trivial | rfl | apply And.intro)) rfl) rfl ⟨⟨P.costs, rs⟩, an, m1, ⟨rfl, rfl, rfl⟩, ⟨hP1, by show rs.length ≤ 10; omega, hrc⟩, by omega, by omega, by omega⟩
end Go.Proofs.Ytengafkfgcdpeaa
end

/- Layer 11: the law ParallelAssembles. -/
section
namespace Go.Proofs.Ytengafkfgcdpeaa
set_option linter.unusedVariables false
set_option linter.unusedSimpArgs false
set_option linter.unnecessarySimpa false
set_option linter.unusedSectionVars false
set_option maxRecDepth 10000
open Go.RowKit
def plGL11k_0 : Plan := (.take 0 (.take 1 (.take 2 (.take 3 (.take 4 (.take 5 (.take 6 (.take 7 (.take 8 (.take 9 (.take 10 (.take 11 (.take 12 (.take 13 (.take 14 (.take 15 (.take 16 (.take 17 (.take 18 (.take 19 (.take 20 (.take 21 (.take 22 (.take 23 (.take 24 (.take 25 (.take 26 (.take 27 (.take 28 (.take 29 (.take 30 (.take 31 (.take 32 (.take 33 (.take 34 (.alt 35 (.take 36 (.take 37 .done)) .stop))))))))))))))))))))))))))))))))))))
def plGL11k_1 : Plan := (.take 0 (.take 1 (.take 2 (.take 3 (.take 5 (.take 6 (.take 7 (.take 8 (.alt 4 (.alt 9 (.take 10 (.take 11 (.take 12 (.take 13 (.take 14 (.take 15 (.take 17 (.take 18 (.take 19 (.take 20 (.alt 16 (.alt 21 (.take 22 (.take 23 (.take 24 (.take 25 (.take 26 (.take 27 (.take 28 (.take 30 (.take 31 (.take 32 (.take 33 (.alt 29 (.alt 34 (.alt 35 (.take 36 (.take 37 .done)) .stop) .stop) (.alt 34 (.alt 29 (.alt 35 (.take 36 (.take 37 .done)) .stop) .stop) .stop))))))))))))) .stop) (.alt 21 (.alt 16 (.take 22 (.take 23 (.take 24 (.take 25 (.take 26 (.take 27 (.take 28 (.take 30 (.take 31 (.take 32 (.take 33 (.alt 29 (.alt 34 (.alt 35 (.take 36 (.take 37 .done)) .stop) .stop) (.alt 34 (.alt 29 (.alt 35 (.take 36 (.take 37 .done)) .stop) .stop) .stop))))))))))))) .stop) .stop)))))))))))) .stop) (.alt 9 (.alt 4 (.take 10 (.take 11 (.take 12 (.take 13 (.take 14 (.take 15 (.take 17 (.take 18 (.take 19 (.take 20 (.alt 16 (.alt 21 (.take 22 (.take 23 (.take 24 (.take 25 (.take 26 (.take 27 (.take 28 (.take 30 (.take 31 (.take 32 (.take 33 (.alt 29 (.alt 34 (.alt 35 (.take 36 (.take 37 .done)) .stop) .stop) (.alt 34 (.alt 29 (.alt 35 (.take 36 (.take 37 .done)) .stop) .stop) .stop))))))))))))) .stop) (.alt 21 (.alt 16 (.take 22 (.take 23 (.take 24 (.take 25 (.take 26 (.take 27 (.take 28 (.take 30 (.take 31 (.take 32 (.take 33 (.alt 29 (.alt 34 (.alt 35 (.take 36 (.take 37 .done)) .stop) .stop) (.alt 34 (.alt 29 (.alt 35 (.take 36 (.take 37 .done)) .stop) .stop) .stop))))))))))))) .stop) .stop)))))))))))) .stop) .stop))))))))))
def plGL11k_2 : Plan := (.take 0 (.take 1 (.take 2 (.take 3 (.take 4 (.take 5 (.take 6 (.take 7 (.alt 8 (.take 9 (.take 10 .done)) .stop)))))))))
def plGL11k_3 : Plan := (.take 0 (.take 1 (.take 2 (.take 3 (.take 4 (.take 5 (.take 6 (.alt 7 (.alt 8 (.take 9 (.take 10 .done)) .stop) .stop))))))))
def plGL11k_4 : Plan := (.take 0 (.take 1 (.take 2 (.take 4 (.take 5 (.take 6 (.alt 3 (.alt 7 (.alt 8 (.take 9 (.take 10 .done)) .stop) .stop) (.alt 7 (.alt 3 (.alt 8 (.take 9 (.take 10 .done)) .stop) .stop) .stop))))))))
theorem rest_fam {tt : Nat} {α β : Type} {K : St → Prop} {s : St} (I : α → β → Prop) (st : α → β → St) (a0 : α) (b0 : β) (h0 : I a0 b0) (hle : Le tt s (st a0 b0)) (h : ∀ a b, I a b → K (st a b)) : rest tt K s := rest_i (st a0 b0) hle (h a0 b0 h0)
theorem good_check {P : Prog} {an : List Int} {j : Nat} (h : GoodU P an j) : checkF (resP P an (usN P an j)) (planR P an (usN P an j) true) = 0 ∧ (certF ⟨P.costs, resRows P an (usN P an j)⟩ true (bestR P an (usN P an j)).2.1).length ≤ 8191 := by
  obtain ⟨h1, h2⟩ := h
  obtain ⟨v1, v2, v3, v4⟩ := resE_zero h1
  have hv := res_valid (an := an) (us := usN P an j) v1 v4
  have e : resP P an (usN P an j) = ⟨P.costs, resRows P an (usN P an j)⟩ := by rw [resP, if_pos h1]
  have hb : (bestF ⟨P.costs, resRows P an (usN P an j)⟩).1 = true := h2
  have := cert_check hv
  rw [hb] at this
  exact ⟨by rw [e]; exact this, cert_len hv⟩
set_option maxHeartbeats 8000000 in
theorem assembles_law (xs : List Int) (k : Int) (hx : xs.length ≤ 9223372036854775807) : Good Try.prog TT false 9 [ints xs, .int .i64 k] (· = .bool true) := by
  have hck := cutG_in k 7 (by omega)
  refine good_of_c (fun i => Nat.beq i 7) mixed tabOk Try.func9 rfl rfl Try.ntmps9 Try.results9 rfl rfl ?_
  (conv => whnf); (repeat' (first | (refine arith_i ⟨by omega, by omega⟩ ?_; conv => whnf) | (refine arith_u ⟨by omega, by omega⟩ ?_; conv => whnf) | (refine arith_8 ⟨by omega, by omega⟩ ?_; conv => whnf) | (refine need_i (by first | omega | (simp only [List.length_cons, List.length_nil]; omega) | (simp only [List.length_append, List.length_cons, List.length_nil, List.length_map, List.length_replicate, List.length_modify]; omega)) ?_; conv => whnf) | ((with_reducible refine branch_tt ?_); conv => whnf) | ((with_reducible refine branch_ff ?_); conv => whnf) | (with_reducible refine branch_not ?_) | ((refine call_e (new_ok xs hx) ?_); conv => whnf) | (((refine acall_m ?_; refine rcall_i [] [] [] [(807, 707), (808, 708), (809, 709)] _ Le.refl fewM_ok rfl rfl rfl rfl trivial ?_; rintro r ov bx' ⟨P, an, n, ⟨rfl, rfl, rfl⟩, hP, han, hn⟩; refine ⟨rfl, ?_⟩; have LC : (P.costs.map encI).length = P.costs.length := (List.length_map ..); have LN : (an.map encI).length = an.length := (List.length_map ..); have hP1 := hP.1; have hfit : Fits P := ⟨by have := hP.1; omega, by have := hP.2.1; omega, fun r hr => by have := hP.2.2 r hr; omega⟩)); conv => whnf) | (((refine call_i (one_ok _ (by omega)) fun r hr => ?_; obtain ⟨b1, rfl⟩ := hr)); conv => whnf) | ((refine call_e (cut_ok k 7 (by omega)) ?_); conv => whnf) | (((refine call_i (range_ok (-1) 6 (by omega) (by omega)) fun r hr => ?_; obtain ⟨m1, rfl, -, h3⟩ := hr)); conv => whnf) | ((with_reducible refine slc_e ?_); conv => whnf) | ((with_reducible refine callS_a ?_); conv => whnf) | ((with_reducible refine bld_a ?_); conv => whnf) | ((with_reducible refine own_e ?_); conv => whnf) | ((with_reducible refine mkmap_b ?_); conv => whnf) | (refine draw_i 38 plGL11k_0 (by decide +kernel) ?_; (conv => whnf); fail_if_success (guard_target =~ False)) | (refine draw_i 38 plGL11k_1 (by decide +kernel) ?_; (conv => whnf); fail_if_success (guard_target =~ False)) | (refine draw_i 11 plGL11k_2 (by decide +kernel) ?_; (conv => whnf); fail_if_success (guard_target =~ False)) | (refine draw_i 11 plGL11k_3 (by decide +kernel) ?_; (conv => whnf); fail_if_success (guard_target =~ False)) | (refine draw_i 11 plGL11k_4 (by decide +kernel) ?_; (conv => whnf); fail_if_success (guard_target =~ False)) | ((with_reducible refine And.intro ?_ ?_) <;> (conv => whnf)) | (with_reducible exact trivial) | ((with_reducible refine branch_d (fun hq => ?_) (fun hq => ?_)) <;> (try (exfalso; omega)) <;> (conv => whnf)) | ((with_reducible refine branch_e (fun hq => ?_) (fun hq => ?_)) <;> (try (exfalso; omega)) <;> (conv => whnf)) | ((with_reducible refine branch_n (fun hq => ?_) (fun hq => ?_)) <;> (try (exfalso; omega)) <;> (conv => whnf)) | ((with_reducible refine branch_i (fun hq => ?_) (fun hq => ?_)) <;> (try (exfalso; omega)) <;> (conv => whnf))))
  all_goals first
    | refine rest_fam (fun (an' : List Int) (n' : Int) => an'.length ≤ 31) (fun an' n' => mkSt [(6, .ptr 6 0), (7, .own 709 3 1 (an'.map encI)), (8, .int .i64 n')] [(6, [.own 707 3 1 (P.costs.map encI), .own 708 39 3 (P.rows.map encRow)])] true) (an ++ [m1]) _ (by simp; omega) (le_mk ⟨rfl, congrArg (AV.own 709 3 1) snocI', rfl, trivial⟩ ⟨rfl, trivial⟩ rfl) ?_
    | refine rest_fam (fun (an' : List Int) (n' : Int) => an'.length ≤ 31) (fun an' n' => mkSt [(6, .ptr 6 0), (7, .own 709 3 1 (an'.map encI)), (8, .int .i64 n')] [(6, [.own 707 3 1 (P.costs.map encI), .own 708 39 3 (P.rows.map encRow)])] true) an _ (by omega) (le_mk ⟨rfl, rfl, rfl, trivial⟩ ⟨rfl, trivial⟩ rfl) ?_
  all_goals
    rintro an' n' han'
    rcases asmP_cases (P := P) (an := an') (k := n') with ⟨e, he, hasm⟩ | ⟨hv, hch, hk, hg, hasm⟩
    · have hA : ∀ wn, asmV P an' n' wn = .tup [plsV [], .int .i64 e] := fun wn => by rw [asmV, hasm]
      (conv => whnf); (repeat' (first | (refine arith_i ⟨by omega, by omega⟩ ?_; conv => whnf) | (refine arith_u ⟨by omega, by omega⟩ ?_; conv => whnf) | (refine arith_8 ⟨by omega, by omega⟩ ?_; conv => whnf) | (refine need_i (by first | omega | (simp only [List.length_cons, List.length_nil]; omega) | (simp only [List.length_append, List.length_cons, List.length_nil, List.length_map, List.length_replicate, List.length_modify]; omega)) ?_; conv => whnf) | ((with_reducible refine branch_tt ?_); conv => whnf) | ((with_reducible refine branch_ff ?_); conv => whnf) | (with_reducible refine branch_not ?_) | ((refine call_e ((assemble_ok P an' n' hfit (by omega)).mono fun r h => h.trans (hA true)) ?_); conv => whnf) | ((refine call_e ((rAssemble_ok P an' n' hfit (by omega)).mono fun r h => h.trans (hA false)) ?_); conv => whnf) | ((refine call_e awake11_ok ?_); conv => whnf) | ((with_reducible refine slc_e ?_); conv => whnf) | ((with_reducible refine callS_a ?_); conv => whnf) | ((with_reducible refine bld_a ?_); conv => whnf) | ((with_reducible refine own_e ?_); conv => whnf) | ((with_reducible refine mkmap_b ?_); conv => whnf) | (refine draw_i 38 plGL11k_0 (by decide +kernel) ?_; (conv => whnf); fail_if_success (guard_target =~ False)) | (refine draw_i 38 plGL11k_1 (by decide +kernel) ?_; (conv => whnf); fail_if_success (guard_target =~ False)) | (refine draw_i 11 plGL11k_2 (by decide +kernel) ?_; (conv => whnf); fail_if_success (guard_target =~ False)) | (refine draw_i 11 plGL11k_3 (by decide +kernel) ?_; (conv => whnf); fail_if_success (guard_target =~ False)) | (refine draw_i 11 plGL11k_4 (by decide +kernel) ?_; (conv => whnf); fail_if_success (guard_target =~ False)) | ((with_reducible refine And.intro ?_ ?_) <;> (conv => whnf)) | (with_reducible exact trivial) | ((with_reducible refine branch_d (fun hq => ?_) (fun hq => ?_)) <;> (try (exfalso; omega)) <;> (conv => whnf)) | ((with_reducible refine branch_e (fun hq => ?_) (fun hq => ?_)) <;> (try (exfalso; omega)) <;> (conv => whnf)) | ((with_reducible refine branch_n (fun hq => ?_) (fun hq => ?_)) <;> (try (exfalso; omega)) <;> (conv => whnf)) | ((with_reducible refine branch_i (fun hq => ?_) (fun hq => ?_)) <;> (try (exfalso; omega)) <;> (conv => whnf))))
      refine loop_i (fun _ : Unit => True) (fun _ => mkSt [(6, .ptr 6 0), (7, ints an'), (9, plsV []), (11, plsV []), (14, .int .i64 0)] [(6, [ints P.costs, rowsV P.rows])] true) (fun _ => 0) () trivial (le_mk (by repeat' (first | exact trivial | rfl | apply And.intro)) (by repeat' (first | exact trivial | rfl | apply And.intro)) rfl) ?_
      rintro - -
      have L0 : (([] : List Pln).map encPl).length = 0 := rfl
      (conv => whnf); (repeat' (first | (refine arith_i ⟨by omega, by omega⟩ ?_; conv => whnf) | (refine arith_u ⟨by omega, by omega⟩ ?_; conv => whnf) | (refine arith_8 ⟨by omega, by omega⟩ ?_; conv => whnf) | (refine need_i (by first | omega | (simp only [List.length_cons, List.length_nil]; omega) | (simp only [List.length_append, List.length_cons, List.length_nil, List.length_map, List.length_replicate, List.length_modify]; omega)) ?_; conv => whnf) | ((with_reducible refine branch_tt ?_); conv => whnf) | ((with_reducible refine branch_ff ?_); conv => whnf) | (with_reducible refine branch_not ?_) | ((refine call_e awake11_ok ?_); conv => whnf) | ((with_reducible refine slc_e ?_); conv => whnf) | ((with_reducible refine callS_a ?_); conv => whnf) | ((with_reducible refine bld_a ?_); conv => whnf) | ((with_reducible refine own_e ?_); conv => whnf) | ((with_reducible refine mkmap_b ?_); conv => whnf) | (refine draw_i 38 plGL11k_0 (by decide +kernel) ?_; (conv => whnf); fail_if_success (guard_target =~ False)) | (refine draw_i 38 plGL11k_1 (by decide +kernel) ?_; (conv => whnf); fail_if_success (guard_target =~ False)) | (refine draw_i 11 plGL11k_2 (by decide +kernel) ?_; (conv => whnf); fail_if_success (guard_target =~ False)) | (refine draw_i 11 plGL11k_3 (by decide +kernel) ?_; (conv => whnf); fail_if_success (guard_target =~ False)) | (refine draw_i 11 plGL11k_4 (by decide +kernel) ?_; (conv => whnf); fail_if_success (guard_target =~ False)) | ((with_reducible refine And.intro ?_ ?_) <;> (conv => whnf)) | (with_reducible exact trivial) | ((with_reducible refine branch_d (fun hq => ?_) (fun hq => ?_)) <;> (try (exfalso; omega)) <;> (conv => whnf)) | ((with_reducible refine branch_e (fun hq => ?_) (fun hq => ?_)) <;> (try (exfalso; omega)) <;> (conv => whnf)) | ((with_reducible refine branch_n (fun hq => ?_) (fun hq => ?_)) <;> (try (exfalso; omega)) <;> (conv => whnf)) | ((with_reducible refine branch_i (fun hq => ?_) (fun hq => ?_)) <;> (try (exfalso; omega)) <;> (conv => whnf))))
      exact ret_p rfl rfl
    · obtain ⟨K, rfl⟩ : ∃ K : Nat, n' = K := ⟨n'.toNat, by omega⟩
      rw [Int.toNat_natCast] at hg hasm
      have hA : ∀ wn, asmV P an' K wn = .tup [plsV ((List.range K).map fun j => planR P an' (usN P an' j) wn), .int .i64 0] := fun wn => by rw [asmV, hasm]
      have LK : ∀ wn, (((List.range K).map fun j => planR P an' (usN P an' j) wn).map encPl).length = K := fun wn => by simp
      have LK1 := LK true
      have LK2 := LK false
      have hn12 := (validB_parts hv).1
      (conv => whnf); (repeat' (first | (refine arith_i ⟨by omega, by omega⟩ ?_; conv => whnf) | (refine arith_u ⟨by omega, by omega⟩ ?_; conv => whnf) | (refine arith_8 ⟨by omega, by omega⟩ ?_; conv => whnf) | (refine need_i (by first | omega | (simp only [List.length_cons, List.length_nil]; omega) | (simp only [List.length_append, List.length_cons, List.length_nil, List.length_map, List.length_replicate, List.length_modify]; omega)) ?_; conv => whnf) | ((with_reducible refine branch_tt ?_); conv => whnf) | ((with_reducible refine branch_ff ?_); conv => whnf) | (with_reducible refine branch_not ?_) | ((refine call_e ((assemble_ok P an' K hfit (by omega)).mono fun r h => h.trans (hA true)) ?_); conv => whnf) | ((refine call_e ((rAssemble_ok P an' K hfit (by omega)).mono fun r h => h.trans (hA false)) ?_); conv => whnf) | ((refine call_e awake11_ok ?_); conv => whnf) | ((with_reducible refine slc_e ?_); conv => whnf) | ((with_reducible refine callS_a ?_); conv => whnf) | ((with_reducible refine bld_a ?_); conv => whnf) | ((with_reducible refine own_e ?_); conv => whnf) | ((with_reducible refine mkmap_b ?_); conv => whnf) | (refine draw_i 38 plGL11k_0 (by decide +kernel) ?_; (conv => whnf); fail_if_success (guard_target =~ False)) | (refine draw_i 38 plGL11k_1 (by decide +kernel) ?_; (conv => whnf); fail_if_success (guard_target =~ False)) | (refine draw_i 11 plGL11k_2 (by decide +kernel) ?_; (conv => whnf); fail_if_success (guard_target =~ False)) | (refine draw_i 11 plGL11k_3 (by decide +kernel) ?_; (conv => whnf); fail_if_success (guard_target =~ False)) | (refine draw_i 11 plGL11k_4 (by decide +kernel) ?_; (conv => whnf); fail_if_success (guard_target =~ False)) | ((with_reducible refine And.intro ?_ ?_) <;> (conv => whnf)) | (with_reducible exact trivial) | ((with_reducible refine branch_d (fun hq => ?_) (fun hq => ?_)) <;> (try (exfalso; omega)) <;> (conv => whnf)) | ((with_reducible refine branch_e (fun hq => ?_) (fun hq => ?_)) <;> (try (exfalso; omega)) <;> (conv => whnf)) | ((with_reducible refine branch_n (fun hq => ?_) (fun hq => ?_)) <;> (try (exfalso; omega)) <;> (conv => whnf)) | ((with_reducible refine branch_i (fun hq => ?_) (fun hq => ?_)) <;> (try (exfalso; omega)) <;> (conv => whnf))))
      refine loop_i (fun i : Nat => i ≤ K) (fun i => mkSt [(6, .ptr 6 0), (7, ints an'), (9, plsV ((List.range K).map fun j => planR P an' (usN P an' j) true)), (11, plsV ((List.range K).map fun j => planR P an' (usN P an' j) false)), (13, .own 67 4 1 ((flagsU P.costs.length (usN P an' i)).map encBl)), (14, .int .i64 i)] [(6, [ints P.costs, rowsV P.rows])] true) (fun i => K - i) 0 (Nat.zero_le _) (by rw [show usN P an' 0 = [] from rfl, flagsU_nil, List.map_replicate, LC, Int.toNat_natCast]; exact (le_mk (by repeat' (first | exact trivial | rfl | apply And.intro)) (by repeat' (first | exact trivial | rfl | apply And.intro)) rfl)) ?_
      intro i hi
      have LF : ((flagsU P.costs.length (usN P an' i)).map encBl).length = P.costs.length := by rw [List.length_map, flagsU_len]
      (conv => whnf); (repeat' (first | (refine arith_i ⟨by omega, by omega⟩ ?_; conv => whnf) | (refine arith_u ⟨by omega, by omega⟩ ?_; conv => whnf) | (refine arith_8 ⟨by omega, by omega⟩ ?_; conv => whnf) | (refine need_i (by first | omega | (simp only [List.length_cons, List.length_nil]; omega) | (simp only [List.length_append, List.length_cons, List.length_nil, List.length_map, List.length_replicate, List.length_modify]; omega)) ?_; conv => whnf) | ((with_reducible refine branch_tt ?_); conv => whnf) | ((with_reducible refine branch_ff ?_); conv => whnf) | (with_reducible refine branch_not ?_) | ((refine call_e awake11_ok ?_); conv => whnf) | (((have hgi := hg i (by omega); obtain ⟨hb1, hb2⟩ := best_in hgi.1; have hI := ints_ok (planR P an' (usN P an' i) true).chosen (planR P an' (usN P an' i) false).chosen (Nat.le_trans hb1 (by decide)) (Nat.le_trans hb1 (by decide)); rw [decide_eq_true (show (planR P an' (usN P an' i) true).chosen = (planR P an' (usN P an' i) false).chosen from rfl)] at hI; refine call_e hI ?_)); conv => whnf) | ((refine idx_ms (enc := encPl) (x := planR P an' (usN P an' i) true) (by omega) (by rw [Int.toNat_natCast, List.getElem?_map, List.getElem?_range (by omega)]; rfl) ?_); conv => whnf) | ((refine idx_ms (enc := encPl) (x := planR P an' (usN P an' i) false) (by omega) (by rw [Int.toNat_natCast, List.getElem?_map, List.getElem?_range (by omega)]; rfl) ?_); conv => whnf) | ((with_reducible refine slc_e ?_); conv => whnf) | ((with_reducible refine callS_a ?_); conv => whnf) | ((with_reducible refine bld_a ?_); conv => whnf) | ((with_reducible refine own_e ?_); conv => whnf) | ((with_reducible refine mkmap_b ?_); conv => whnf) | (refine draw_i 38 plGL11k_0 (by decide +kernel) ?_; (conv => whnf); fail_if_success (guard_target =~ False)) | (refine draw_i 38 plGL11k_1 (by decide +kernel) ?_; (conv => whnf); fail_if_success (guard_target =~ False)) | (refine draw_i 11 plGL11k_2 (by decide +kernel) ?_; (conv => whnf); fail_if_success (guard_target =~ False)) | (refine draw_i 11 plGL11k_3 (by decide +kernel) ?_; (conv => whnf); fail_if_success (guard_target =~ False)) | (refine draw_i 11 plGL11k_4 (by decide +kernel) ?_; (conv => whnf); fail_if_success (guard_target =~ False)) | ((with_reducible refine And.intro ?_ ?_) <;> (conv => whnf)) | (with_reducible exact trivial) | ((with_reducible refine branch_d (fun hq => ?_) (fun hq => ?_)) <;> (try (exfalso; omega)) <;> (conv => whnf)) | ((with_reducible refine branch_e (fun hq => ?_) (fun hq => ?_)) <;> (try (exfalso; omega)) <;> (conv => whnf)) | ((with_reducible refine branch_n (fun hq => ?_) (fun hq => ?_)) <;> (try (exfalso; omega)) <;> (conv => whnf)) | ((with_reducible refine branch_i (fun hq => ?_) (fun hq => ?_)) <;> (try (exfalso; omega)) <;> (conv => whnf))))
      all_goals first
        | exact ret_p rfl rfl
        | (exfalso; exact hq rfl)
        | exact absurd (show true = false from hq) (by decide)
        | skip
      obtain ⟨hck1, hck2⟩ := good_check hgi
      have hus := usN_asc (P := P) (an := an') (i := i)
      have hul := asc_len12 hv hus
      refine loop_i (fun j : Nat => j ≤ P.costs.length) (fun j => mkSt [(6, .ptr 6 0), (7, ints an'), (9, plsV ((List.range K).map fun j => planR P an' (usN P an' j) true)), (11, plsV ((List.range K).map fun j => planR P an' (usN P an' j) false)), (13, .own 67 4 1 ((flagsU P.costs.length (usN P an' i)).map encBl)), (14, .int .i64 i), (15, .own 702 3 1 ((usedL j (usN P an' i)).map encI)), (16, .int .i64 j)] [(6, [ints P.costs, rowsV P.rows])] true) (fun j => P.costs.length - j) 0 (Nat.zero_le _) (Le.trans (le_adopt 15 702 3 1 rfl) (le_mk (by repeat' (first | exact trivial | rfl | apply And.intro)) (by repeat' (first | exact trivial | rfl | apply And.intro)) rfl)) ?_
      intro j hj
      have LU := usedL_len (i := j) (us := usN P an' i)
      have hun := usedL_next (i := j) (us := usN P an' i)
      (conv => whnf); (repeat' (first | (refine arith_i ⟨by omega, by omega⟩ ?_; conv => whnf) | (refine arith_u ⟨by omega, by omega⟩ ?_; conv => whnf) | (refine arith_8 ⟨by omega, by omega⟩ ?_; conv => whnf) | (refine need_i (by first | omega | (simp only [List.length_cons, List.length_nil]; omega) | (simp only [List.length_append, List.length_cons, List.length_nil, List.length_map, List.length_replicate, List.length_modify]; omega)) ?_; conv => whnf) | ((with_reducible refine branch_tt ?_); conv => whnf) | ((with_reducible refine branch_ff ?_); conv => whnf) | (with_reducible refine branch_not ?_) | ((refine idx_ms (enc := encBl) (x := hasB (usN P an' i) (j : Int)) (by omega) (by rw [Int.toNat_natCast]; exact flagsU_at (by omega)) ?_); conv => whnf) | (((have hin : usedL j (usN P an' i) = usN P an' i := (by rw [show j = P.costs.length by omega]; exact usedL_self hus); rw [hin]; refine call_e ((rRestrict_ok P an' (usN P an' i) hfit (by omega) (by omega)).mono fun r h => h.trans (by rw [resV, hgi.1] : _ = AV.tup [progV (resP P an' (usN P an' i)), .int .i64 0])) ?_)); conv => whnf) | ((refine idx_ms (enc := encPl) (x := planR P an' (usN P an' i) true) (by omega) (by rw [Int.toNat_natCast, List.getElem?_map, List.getElem?_range (by omega)]; rfl) ?_); conv => whnf) | ((refine call_e ((check_ok (resP P an' (usN P an' i)) (planR P an' (usN P an' i) true) (res_fits hfit) (Nat.le_trans hck2 (by decide)) (Nat.le_trans hb1 (by decide))).mono fun r h => h.trans (int_eq hck1)) ?_); conv => whnf) | ((with_reducible refine slc_e ?_); conv => whnf) | ((with_reducible refine callS_a ?_); conv => whnf) | ((with_reducible refine bld_a ?_); conv => whnf) | ((with_reducible refine own_e ?_); conv => whnf) | ((with_reducible refine mkmap_b ?_); conv => whnf) | (refine draw_i 38 plGL11k_0 (by decide +kernel) ?_; (conv => whnf); fail_if_success (guard_target =~ False)) | (refine draw_i 38 plGL11k_1 (by decide +kernel) ?_; (conv => whnf); fail_if_success (guard_target =~ False)) | (refine draw_i 11 plGL11k_2 (by decide +kernel) ?_; (conv => whnf); fail_if_success (guard_target =~ False)) | (refine draw_i 11 plGL11k_3 (by decide +kernel) ?_; (conv => whnf); fail_if_success (guard_target =~ False)) | (refine draw_i 11 plGL11k_4 (by decide +kernel) ?_; (conv => whnf); fail_if_success (guard_target =~ False)) | ((with_reducible refine And.intro ?_ ?_) <;> (conv => whnf)) | (with_reducible exact trivial) | ((with_reducible refine branch_d (fun hq => ?_) (fun hq => ?_)) <;> (try (exfalso; omega)) <;> (conv => whnf)) | ((with_reducible refine branch_e (fun hq => ?_) (fun hq => ?_)) <;> (try (exfalso; omega)) <;> (conv => whnf)) | ((with_reducible refine branch_n (fun hq => ?_) (fun hq => ?_)) <;> (try (exfalso; omega)) <;> (conv => whnf)) | ((with_reducible refine branch_i (fun hq => ?_) (fun hq => ?_)) <;> (try (exfalso; omega)) <;> (conv => whnf))))
      · rw [if_pos hq] at hun
        exact ⟨j + 1, by omega, by rw [hun, List.map_append]; exact (le_mk (by repeat' (first | exact trivial | rfl | apply And.intro)) (by repeat' (first | exact trivial | rfl | apply And.intro)) rfl), by omega⟩
      · rw [if_neg (by rw [hq]; decide), List.append_nil] at hun
        exact ⟨j + 1, by omega, by rw [hun]; exact (le_mk (by repeat' (first | exact trivial | rfl | apply And.intro)) (by repeat' (first | exact trivial | rfl | apply And.intro)) rfl), by omega⟩
      have hba := hb2 hgi.2
      refine loop_i (fun m : Nat => m ≤ (bestR P an' (usN P an' i)).2.2.length) (fun m => mkSt [(6, .ptr 6 0), (7, ints an'), (9, plsV ((List.range K).map fun j => planR P an' (usN P an' j) true)), (11, plsV ((List.range K).map fun j => planR P an' (usN P an' j) false)), (13, .own 67 4 1 ((flagsU P.costs.length (usN P an' i ++ (bestR P an' (usN P an' i)).2.2.take m)).map encBl)), (14, .int .i64 i), (19, .int .i64 m)] [(6, [ints P.costs, rowsV P.rows])] true) (fun m => (bestR P an' (usN P an' i)).2.2.length - m) 0 (Nat.zero_le _) (le_mk ⟨rfl, rfl, rfl, rfl, congrArg (fun x => AV.own 67 4 1 ((flagsU P.costs.length x).map encBl)) (show usN P an' i = usN P an' i ++ (bestR P an' (usN P an' i)).2.2.take 0 by simp), rfl, rfl, trivial⟩ ⟨rfl, trivial⟩ rfl) ?_
      intro m hm
      have LG : ((flagsU P.costs.length (usN P an' i ++ (bestR P an' (usN P an' i)).2.2.take m)).map encBl).length = P.costs.length := by rw [List.length_map, flagsU_len]
      have LB : ((planR P an' (usN P an' i) false).chosen.map encI).length = (bestR P an' (usN P an' i)).2.2.length := List.length_map ..
      (conv => whnf); (repeat' (first | (refine arith_i ⟨by omega, by omega⟩ ?_; conv => whnf) | (refine arith_u ⟨by omega, by omega⟩ ?_; conv => whnf) | (refine arith_8 ⟨by omega, by omega⟩ ?_; conv => whnf) | (refine need_i (by first | omega | (simp only [List.length_cons, List.length_nil]; omega) | (simp only [List.length_append, List.length_cons, List.length_nil, List.length_map, List.length_replicate, List.length_modify]; omega)) ?_; conv => whnf) | ((with_reducible refine branch_tt ?_); conv => whnf) | ((with_reducible refine branch_ff ?_); conv => whnf) | (with_reducible refine branch_not ?_) | ((refine idx_cs (by assumption) ?_); conv => whnf) | ((refine idx_ms (enc := encPl) (x := planR P an' (usN P an' i) false) (by omega) (by rw [Int.toNat_natCast, List.getElem?_map, List.getElem?_range (by omega)]; rfl) ?_); conv => whnf) | (((refine idx_c (xs := (bestR P an' (usN P an' i)).2.2) (by omega) fun c hcc => ?_; have hci := hba.2 c (List.mem_of_getElem? hcc))); conv => whnf) | (((refine idx_ms (enc := encBl) (x := hasB (usN P an' i ++ (bestR P an' (usN P an' i)).2.2.take m) (c.toNat : Int)) (by omega) (flagsU_at (by omega)) ?_)); conv => whnf) | ((with_reducible refine slc_e ?_); conv => whnf) | ((with_reducible refine callS_a ?_); conv => whnf) | ((with_reducible refine bld_a ?_); conv => whnf) | ((with_reducible refine own_e ?_); conv => whnf) | ((with_reducible refine mkmap_b ?_); conv => whnf) | (refine draw_i 38 plGL11k_1 (by decide +kernel) ?_; (conv => whnf); fail_if_success (guard_target =~ False)) | (refine draw_i 38 plGL11k_0 (by decide +kernel) ?_; (conv => whnf); fail_if_success (guard_target =~ False)) | (refine draw_i 11 plGL11k_3 (by decide +kernel) ?_; (conv => whnf); fail_if_success (guard_target =~ False)) | (refine draw_i 11 plGL11k_4 (by decide +kernel) ?_; (conv => whnf); fail_if_success (guard_target =~ False)) | (refine draw_i 11 plGL11k_2 (by decide +kernel) ?_; (conv => whnf); fail_if_success (guard_target =~ False)) | ((with_reducible refine And.intro ?_ ?_) <;> (conv => whnf)) | (with_reducible exact trivial) | ((with_reducible refine branch_d (fun hq => ?_) (fun hq => ?_)) <;> (try (exfalso; omega)) <;> (conv => whnf)) | ((with_reducible refine branch_e (fun hq => ?_) (fun hq => ?_)) <;> (try (exfalso; omega)) <;> (conv => whnf)) | ((with_reducible refine branch_n (fun hq => ?_) (fun hq => ?_)) <;> (try (exfalso; omega)) <;> (conv => whnf)) | ((with_reducible refine branch_i (fun hq => ?_) (fun hq => ?_)) <;> (try (exfalso; omega)) <;> (conv => whnf))))
      · refine ⟨m + 1, by omega, ?_, by omega⟩
        rw [List.take_add_one, hcc, ← List.append_assoc]
        refine le_mk ⟨rfl, rfl, rfl, rfl, ?_, rfl, rfl, trivial⟩ ⟨rfl, trivial⟩ rfl
        exact congrArg (AV.own 67 4 1) (encBl_set.trans (by rw [flagsU_set (by omega)]; rfl))
      · have hmm : (bestR P an' (usN P an' i)).2.2.take m = (bestR P an' (usN P an' i)).2.2 := List.take_of_length_le (by omega)
        exact ⟨i + 1, by omega, le_mk ⟨rfl, rfl, rfl, rfl, congrArg (fun x => AV.own 67 4 1 (List.map encBl x)) (by rw [hmm]; exact flagsU_used.symm), rfl, trivial⟩ ⟨rfl, trivial⟩ rfl, by omega⟩
end Go.Proofs.Ytengafkfgcdpeaa
end

/- Layer 11: the law ParallelVariants. -/
section
namespace Go.Proofs.Ytengafkfgcdpeaa
set_option linter.unusedVariables false
set_option linter.unusedSimpArgs false
set_option linter.unnecessarySimpa false
set_option linter.unusedSectionVars false
set_option maxRecDepth 10000
open Go.RowKit
def plGL11r_0 : Plan := (.take 0 (.take 1 (.take 2 (.take 3 (.take 4 (.take 5 (.alt 6 (.take 7 (.take 8 (.take 9 (.take 10 (.take 11 .done))))) .stop)))))))
def plGL11r_1 : Plan := (.take 0 (.take 1 (.take 2 (.take 3 (.take 4 (.alt 5 (.alt 6 (.take 7 (.take 8 (.take 9 (.take 10 (.take 11 .done))))) .stop) .stop))))))
def plGL11r_2 : Plan := (.take 1 (.take 2 (.take 3 (.take 4 (.alt 0 (.alt 5 (.alt 6 (.take 7 (.take 8 (.take 9 (.take 10 (.take 11 .done))))) .stop) .stop) (.alt 5 (.alt 0 (.alt 6 (.take 7 (.take 8 (.take 9 (.take 10 (.take 11 .done))))) .stop) .stop) .stop))))))
def plGL11r_3 : Plan := (.take 0 (.take 1 (.take 2 (.take 3 (.take 4 (.take 5 (.take 6 (.take 7 (.take 8 (.take 9 (.take 10 (.take 11 (.take 12 (.alt 13 (.take 14 (.take 15 (.take 16 (.take 17 (.take 18 (.take 19 (.take 20 (.take 21 (.take 22 (.take 23 (.take 24 (.take 25 (.alt 26 (.take 27 (.take 28 (.take 29 (.take 30 (.take 31 (.take 32 (.take 33 (.take 34 (.take 35 (.take 36 (.take 37 (.take 39 (.alt 38 (.take 40 (.take 41 (.take 42 .done))) .stop))))))))))))) .stop))))))))))))) .stop))))))))))))))
def plGL11r_4 : Plan := (.take 0 (.take 1 (.take 2 (.take 3 (.alt 4 (.take 5 (.take 6 (.take 8 (.take 9 (.take 10 (.take 11 (.alt 7 (.alt 12 (.alt 13 (.take 14 (.take 15 (.take 16 (.take 17 (.take 18 (.take 19 (.take 20 (.take 21 (.take 22 (.take 23 (.take 24 (.take 25 (.alt 26 (.take 27 (.take 28 (.take 29 (.take 30 (.take 31 (.take 32 (.take 33 (.take 34 (.take 35 (.take 36 (.take 37 (.take 39 (.alt 38 (.take 40 (.take 41 (.take 42 .done))) .stop))))))))))))) .stop))))))))))))) .stop) .stop) (.alt 12 (.alt 7 (.alt 13 (.take 14 (.take 15 (.take 16 (.take 17 (.take 18 (.take 19 (.take 20 (.take 21 (.take 22 (.take 23 (.take 24 (.take 25 (.alt 26 (.take 27 (.take 28 (.take 29 (.take 30 (.take 31 (.take 32 (.take 33 (.take 34 (.take 35 (.take 36 (.take 37 (.take 39 (.alt 38 (.take 40 (.take 41 (.take 42 .done))) .stop))))))))))))) .stop))))))))))))) .stop) .stop) .stop)))))))) .stop)))))
def plGL11r_5 : Plan := (.take 0 (.take 1 (.take 2 (.take 3 (.take 4 (.take 5 (.take 6 (.take 7 (.take 8 (.alt 9 (.take 10 .done) .stop))))))))))
def plGL11r_6 : Plan := (.take 0 (.take 1 (.take 2 (.take 3 (.take 5 (.take 6 (.take 7 (.alt 4 (.alt 8 (.alt 9 (.take 10 .done) .stop) .stop) (.alt 8 (.alt 4 (.alt 9 (.take 10 .done) .stop) .stop) .stop)))))))))
def chosenN (P : Prog) (an : List Int) (K : Nat) : List (List Int) := (List.range K).map fun j => (bestR P an (usN P an j)).2.2
theorem chosen_apt {P : Prog} {an : List Int} {K : Nat} (hg : ∀ j, j < K → GoodU P an j) : Apt (chosenN P an K) an := fun i l hi hl => by
  have hiK : i < K := by simpa [chosenN] using hi
  have el : l = (bestR P an (usN P an i)).2.2 := by simpa [chosenN, hiK] using hl.symm
  subst el
  obtain ⟨a1, a2, a3, a4, a5⟩ := plan_in (hg i hiK)
  refine ⟨a3, fun k l' hk hl' x hx hx' => Classical.byContradiction fun hn => ?_⟩
  have el' : l' = (bestR P an (usN P an k)).2.2 := by
    have : k < K := by omega
    simpa [chosenN, this] using hl'.symm
  subst el'
  exact a4 x ((usN_mem fun j hj => hg j (by omega)).2 ⟨k, hk, hx'⟩) hn hx
theorem chosen_meets {P : Prog} {an : List Int} {j : Nat} (hv : validB P = true) (h : GoodU P an j) : meetsB P (bestR P an (usN P an j)).2.2 = true ∧ costOk P (bestR P an (usN P an j)).2.2 = true ∧ costF P (bestR P an (usN P an j)).2.2 = (bestR P an (usN P an j)).2.1 := by
  obtain ⟨a1, a2, a3, a4, a5⟩ := plan_in h
  have hc := asc_choice a1
  have ho : costOk P (bestR P an (usN P an j)).2.2 = true := by rw [costOk, hv, hc]; rfl
  exact ⟨by rw [meetsB, hv, hc, a2]; rfl, ho, by rw [costF, if_pos ho]; exact a5⟩
set_option maxHeartbeats 8000000 in
theorem variants_law (xs : List Int) (hx : xs.length ≤ 9223372036854775807) : Good Try.prog TT false 6 [ints xs] (· = .bool true) := by
  refine good_of mixed tabOk Try.func6 rfl rfl Try.ntmps6 Try.results6 rfl rfl ?_
  (conv => whnf); (repeat' (first | (refine arith_i ⟨by omega, by omega⟩ ?_; conv => whnf) | (refine arith_u ⟨by omega, by omega⟩ ?_; conv => whnf) | (refine arith_8 ⟨by omega, by omega⟩ ?_; conv => whnf) | (refine need_i (by first | omega | (simp only [List.length_cons, List.length_nil]; omega) | (simp only [List.length_append, List.length_cons, List.length_nil, List.length_map, List.length_replicate, List.length_modify]; omega)) ?_; conv => whnf) | ((with_reducible refine branch_tt ?_); conv => whnf) | ((with_reducible refine branch_ff ?_); conv => whnf) | (with_reducible refine branch_not ?_) | ((refine call_e (new_ok xs hx) ?_); conv => whnf) | (((refine acall_m ?_; refine rcall_i [] [] [] [(807, 707), (808, 708), (809, 709)] _ Le.refl fewM_ok rfl rfl rfl rfl trivial ?_; rintro r ov bx' ⟨P, an, n, ⟨rfl, rfl, rfl⟩, hP, han, hn⟩; refine ⟨rfl, ?_⟩; have LC : (P.costs.map encI).length = P.costs.length := (List.length_map ..); have LN : (an.map encI).length = an.length := (List.length_map ..); have hP1 := hP.1; have hfit : Fits P := ⟨by have := hP.1; omega, by have := hP.2.1; omega, fun r hr => by have := hP.2.2 r hr; omega⟩)); conv => whnf) | ((with_reducible refine slc_e ?_); conv => whnf) | ((with_reducible refine callS_a ?_); conv => whnf) | ((with_reducible refine bld_a ?_); conv => whnf) | ((with_reducible refine own_e ?_); conv => whnf) | ((with_reducible refine mkmap_b ?_); conv => whnf) | (refine draw_i 12 plGL11r_0 (by decide +kernel) ?_; (conv => whnf); fail_if_success (guard_target =~ False)) | (refine draw_i 12 plGL11r_1 (by decide +kernel) ?_; (conv => whnf); fail_if_success (guard_target =~ False)) | (refine draw_i 12 plGL11r_2 (by decide +kernel) ?_; (conv => whnf); fail_if_success (guard_target =~ False)) | (refine draw_i 43 plGL11r_3 (by decide +kernel) ?_; (conv => whnf); fail_if_success (guard_target =~ False)) | (refine draw_i 43 plGL11r_4 (by decide +kernel) ?_; (conv => whnf); fail_if_success (guard_target =~ False)) | (refine draw_i 11 plGL11r_5 (by decide +kernel) ?_; (conv => whnf); fail_if_success (guard_target =~ False)) | (refine draw_i 11 plGL11r_6 (by decide +kernel) ?_; (conv => whnf); fail_if_success (guard_target =~ False)) | ((with_reducible refine And.intro ?_ ?_) <;> (conv => whnf)) | (with_reducible exact trivial) | ((with_reducible refine branch_d (fun hq => ?_) (fun hq => ?_)) <;> (try (exfalso; omega)) <;> (conv => whnf)) | ((with_reducible refine branch_e (fun hq => ?_) (fun hq => ?_)) <;> (try (exfalso; omega)) <;> (conv => whnf)) | ((with_reducible refine branch_n (fun hq => ?_) (fun hq => ?_)) <;> (try (exfalso; omega)) <;> (conv => whnf)) | ((with_reducible refine branch_i (fun hq => ?_) (fun hq => ?_)) <;> (try (exfalso; omega)) <;> (conv => whnf))))
  rcases asmP_cases (P := P) (an := an) (k := n) with ⟨e, he, hasm⟩ | ⟨hv, hch, hk, hg, hasm⟩
  · have hA : asmV P an n true = .tup [plsV [], .int .i64 e] := by rw [asmV, hasm]
    have L0 : (([] : List Pln).map encPl).length = 0 := rfl
    (conv => whnf); (repeat' (first | (refine arith_i ⟨by omega, by omega⟩ ?_; conv => whnf) | (refine arith_u ⟨by omega, by omega⟩ ?_; conv => whnf) | (refine arith_8 ⟨by omega, by omega⟩ ?_; conv => whnf) | (refine need_i (by first | omega | (simp only [List.length_cons, List.length_nil]; omega) | (simp only [List.length_append, List.length_cons, List.length_nil, List.length_map, List.length_replicate, List.length_modify]; omega)) ?_; conv => whnf) | ((with_reducible refine branch_tt ?_); conv => whnf) | ((with_reducible refine branch_ff ?_); conv => whnf) | (with_reducible refine branch_not ?_) | ((refine call_e ((assemble_ok P an n hfit (by omega)).mono fun r h => h.trans hA) ?_); conv => whnf) | ((refine call_e awake11_ok ?_); conv => whnf) | ((with_reducible refine slc_e ?_); conv => whnf) | ((with_reducible refine callS_a ?_); conv => whnf) | ((with_reducible refine bld_a ?_); conv => whnf) | ((with_reducible refine own_e ?_); conv => whnf) | ((with_reducible refine mkmap_b ?_); conv => whnf) | (refine draw_i 12 plGL11r_0 (by decide +kernel) ?_; (conv => whnf); fail_if_success (guard_target =~ False)) | (refine draw_i 12 plGL11r_1 (by decide +kernel) ?_; (conv => whnf); fail_if_success (guard_target =~ False)) | (refine draw_i 12 plGL11r_2 (by decide +kernel) ?_; (conv => whnf); fail_if_success (guard_target =~ False)) | (refine draw_i 43 plGL11r_3 (by decide +kernel) ?_; (conv => whnf); fail_if_success (guard_target =~ False)) | (refine draw_i 43 plGL11r_4 (by decide +kernel) ?_; (conv => whnf); fail_if_success (guard_target =~ False)) | (refine draw_i 11 plGL11r_5 (by decide +kernel) ?_; (conv => whnf); fail_if_success (guard_target =~ False)) | (refine draw_i 11 plGL11r_6 (by decide +kernel) ?_; (conv => whnf); fail_if_success (guard_target =~ False)) | ((with_reducible refine And.intro ?_ ?_) <;> (conv => whnf)) | (with_reducible exact trivial) | ((with_reducible refine branch_d (fun hq => ?_) (fun hq => ?_)) <;> (try (exfalso; omega)) <;> (conv => whnf)) | ((with_reducible refine branch_e (fun hq => ?_) (fun hq => ?_)) <;> (try (exfalso; omega)) <;> (conv => whnf)) | ((with_reducible refine branch_n (fun hq => ?_) (fun hq => ?_)) <;> (try (exfalso; omega)) <;> (conv => whnf)) | ((with_reducible refine branch_i (fun hq => ?_) (fun hq => ?_)) <;> (try (exfalso; omega)) <;> (conv => whnf))))
    all_goals first
      | exact ret_p rfl rfl
  · obtain ⟨K, rfl⟩ : ∃ K : Nat, n = K := ⟨n.toNat, by omega⟩
    rw [Int.toNat_natCast] at hg hasm
    have hA : asmV P an K true = .tup [plsV ((List.range K).map fun j => planR P an (usN P an j) true), .int .i64 0] := by rw [asmV, hasm]
    have LK : (((List.range K).map fun j => planR P an (usN P an j) true).map encPl).length = K := by simp
    have hn12 := (validB_parts hv).1
    (conv => whnf); (repeat' (first | (refine arith_i ⟨by omega, by omega⟩ ?_; conv => whnf) | (refine arith_u ⟨by omega, by omega⟩ ?_; conv => whnf) | (refine arith_8 ⟨by omega, by omega⟩ ?_; conv => whnf) | (refine need_i (by first | omega | (simp only [List.length_cons, List.length_nil]; omega) | (simp only [List.length_append, List.length_cons, List.length_nil, List.length_map, List.length_replicate, List.length_modify]; omega)) ?_; conv => whnf) | ((with_reducible refine branch_tt ?_); conv => whnf) | ((with_reducible refine branch_ff ?_); conv => whnf) | (with_reducible refine branch_not ?_) | ((refine call_e ((assemble_ok P an K hfit (by omega)).mono fun r h => h.trans hA) ?_); conv => whnf) | ((with_reducible refine slc_e ?_); conv => whnf) | ((with_reducible refine callS_a ?_); conv => whnf) | ((with_reducible refine bld_a ?_); conv => whnf) | ((with_reducible refine own_e ?_); conv => whnf) | ((with_reducible refine mkmap_b ?_); conv => whnf) | (refine draw_i 12 plGL11r_0 (by decide +kernel) ?_; (conv => whnf); fail_if_success (guard_target =~ False)) | (refine draw_i 12 plGL11r_1 (by decide +kernel) ?_; (conv => whnf); fail_if_success (guard_target =~ False)) | (refine draw_i 12 plGL11r_2 (by decide +kernel) ?_; (conv => whnf); fail_if_success (guard_target =~ False)) | (refine draw_i 43 plGL11r_3 (by decide +kernel) ?_; (conv => whnf); fail_if_success (guard_target =~ False)) | (refine draw_i 43 plGL11r_4 (by decide +kernel) ?_; (conv => whnf); fail_if_success (guard_target =~ False)) | (refine draw_i 11 plGL11r_5 (by decide +kernel) ?_; (conv => whnf); fail_if_success (guard_target =~ False)) | (refine draw_i 11 plGL11r_6 (by decide +kernel) ?_; (conv => whnf); fail_if_success (guard_target =~ False)) | ((with_reducible refine And.intro ?_ ?_) <;> (conv => whnf)) | (with_reducible exact trivial) | ((with_reducible refine branch_d (fun hq => ?_) (fun hq => ?_)) <;> (try (exfalso; omega)) <;> (conv => whnf)) | ((with_reducible refine branch_e (fun hq => ?_) (fun hq => ?_)) <;> (try (exfalso; omega)) <;> (conv => whnf)) | ((with_reducible refine branch_n (fun hq => ?_) (fun hq => ?_)) <;> (try (exfalso; omega)) <;> (conv => whnf)) | ((with_reducible refine branch_i (fun hq => ?_) (fun hq => ?_)) <;> (try (exfalso; omega)) <;> (conv => whnf))))
    have hCN : ∀ i, (chosenN P an i).length = i := fun i => by simp [chosenN]
    have hCS : ∀ i, (chosenN P an (i + 1)).map encS = (chosenN P an i).map encS ++ [encS (bestR P an (usN P an i)).2.2] := fun i => by
      unfold chosenN; rw [List.range_succ, List.map_append, List.map_append]; rfl
    refine loop_i (fun i : Nat => i ≤ K) (fun i => mkSt [(3, .ptr 3 0), (4, ints an), (5, .int .i64 K), (6, plsV ((List.range K).map fun j => planR P an (usN P an j) true)), (8, .own 701 22 1 ((chosenN P an i).map encS)), (9, .int .i64 i)] [(3, [ints P.costs, rowsV P.rows])] true) (fun i => K - i) 0 (Nat.zero_le _) (Le.trans (le_adopt 8 701 22 1 rfl) (le_mk (by repeat' (first | exact trivial | rfl | apply And.intro)) (by repeat' (first | exact trivial | rfl | apply And.intro)) rfl)) ?_
    intro i hi
    have LS : ((chosenN P an i).map encS).length = i := by rw [List.length_map, hCN]
    rcases Nat.lt_or_ge i K with hiK | hiK
    · have hgi := hg i hiK
      obtain ⟨hb1, hb2⟩ := best_in hgi.1
      obtain ⟨c1, c2, c3⟩ := chosen_meets hv hgi
      have hM := (meets_ok P (bestR P an (usN P an i)).2.2 hfit (by omega)).mono fun r h => h.trans (bool_eq c1)
      have hC := (cost_ok P (bestR P an (usN P an i)).2.2 hfit (by omega)).mono fun r (h : r = _) => h.trans (by rw [c2, c3] : _ = AV.tup [.int .i64 (bestR P an (usN P an i)).2.1, .bool true])
      have hup : 0 < i → (bestR P an (usN P an (i - 1))).2.1 ≤ (bestR P an (usN P an i)).2.1 := fun h => by
        have := plan_up (hg (i - 1) (by omega)) (by rw [show i - 1 + 1 = i by omega]; exact hgi)
        rwa [show i - 1 + 1 = i by omega] at this
      have LB : ((bestR P an (usN P an i)).2.2.map encI).length = (bestR P an (usN P an i)).2.2.length := List.length_map ..
      (conv => whnf); (repeat' (first | (refine arith_i ⟨by omega, by omega⟩ ?_; conv => whnf) | (refine arith_u ⟨by omega, by omega⟩ ?_; conv => whnf) | (refine arith_8 ⟨by omega, by omega⟩ ?_; conv => whnf) | (refine need_i (by first | omega | (simp only [List.length_cons, List.length_nil]; omega) | (simp only [List.length_append, List.length_cons, List.length_nil, List.length_map, List.length_replicate, List.length_modify]; omega)) ?_; conv => whnf) | ((with_reducible refine branch_tt ?_); conv => whnf) | ((with_reducible refine branch_ff ?_); conv => whnf) | (with_reducible refine branch_not ?_) | ((refine call_e hM ?_); conv => whnf) | ((refine call_e hC ?_); conv => whnf) | ((refine idx_ms (enc := encPl) (x := planR P an (usN P an i) true) (by omega) (by rw [Int.toNat_natCast, List.getElem?_map, List.getElem?_range (by omega)]; rfl) ?_); conv => whnf) | ((refine idx_ms (enc := encPl) (x := planR P an (usN P an (i - 1)) true) (by omega) (by rw [show ((i : Int) - 1).toNat = i - 1 by omega, List.getElem?_map, List.getElem?_range (by omega)]; rfl) ?_); conv => whnf) | ((with_reducible refine slc_e ?_); conv => whnf) | ((with_reducible refine callS_a ?_); conv => whnf) | ((with_reducible refine bld_a ?_); conv => whnf) | ((with_reducible refine own_e ?_); conv => whnf) | ((with_reducible refine mkmap_b ?_); conv => whnf) | (refine draw_i 12 plGL11r_0 (by decide +kernel) ?_; (conv => whnf); fail_if_success (guard_target =~ False)) | (refine draw_i 12 plGL11r_1 (by decide +kernel) ?_; (conv => whnf); fail_if_success (guard_target =~ False)) | (refine draw_i 12 plGL11r_2 (by decide +kernel) ?_; (conv => whnf); fail_if_success (guard_target =~ False)) | (refine draw_i 43 plGL11r_3 (by decide +kernel) ?_; (conv => whnf); fail_if_success (guard_target =~ False)) | (refine draw_i 43 plGL11r_4 (by decide +kernel) ?_; (conv => whnf); fail_if_success (guard_target =~ False)) | (refine draw_i 11 plGL11r_5 (by decide +kernel) ?_; (conv => whnf); fail_if_success (guard_target =~ False)) | (refine draw_i 11 plGL11r_6 (by decide +kernel) ?_; (conv => whnf); fail_if_success (guard_target =~ False)) | ((with_reducible refine And.intro ?_ ?_) <;> (conv => whnf)) | (with_reducible exact trivial) | ((with_reducible refine branch_d (fun hq => ?_) (fun hq => ?_)) <;> (try (exfalso; omega)) <;> (conv => whnf)) | ((with_reducible refine branch_e (fun hq => ?_) (fun hq => ?_)) <;> (try (exfalso; omega)) <;> (conv => whnf)) | ((with_reducible refine branch_n (fun hq => ?_) (fun hq => ?_)) <;> (try (exfalso; omega)) <;> (conv => whnf)) | ((with_reducible refine branch_i (fun hq => ?_) (fun hq => ?_)) <;> (try (exfalso; omega)) <;> (conv => whnf))))
      all_goals first
        | (exfalso; exact hq rfl)
        | exact absurd (show true = false from hq) (by decide)
        | (exfalso; have h5 := hup (by omega); have h6 : (bestR P an (usN P an i)).2.1 < (bestR P an (usN P an (i - 1))).2.1 := hq; omega)
        | skip
      all_goals
        have hpa := (plan_in hgi).2.2.1
        refine loop_i (fun j : Nat => j ≤ an.length) (fun j => mkSt [(3, .ptr 3 0), (4, ints an), (5, .int .i64 K), (6, plsV ((List.range K).map fun j => planR P an (usN P an j) true)), (8, .own 701 22 1 ((chosenN P an i).map encS)), (9, .int .i64 i), (12, .int .i64 j)] [(3, [ints P.costs, rowsV P.rows])] true) (fun j => an.length - j) 0 (Nat.zero_le _) (le_mk (by repeat' (first | exact trivial | rfl | apply And.intro)) (by repeat' (first | exact trivial | rfl | apply And.intro)) rfl) ?_
        intro j hj
        (conv => whnf); (repeat' (first | (refine arith_i ⟨by omega, by omega⟩ ?_; conv => whnf) | (refine arith_u ⟨by omega, by omega⟩ ?_; conv => whnf) | (refine arith_8 ⟨by omega, by omega⟩ ?_; conv => whnf) | (refine need_i (by first | omega | (simp only [List.length_cons, List.length_nil]; omega) | (simp only [List.length_append, List.length_cons, List.length_nil, List.length_map, List.length_replicate, List.length_modify]; omega)) ?_; conv => whnf) | ((with_reducible refine branch_tt ?_); conv => whnf) | ((with_reducible refine branch_ff ?_); conv => whnf) | (with_reducible refine branch_not ?_) | (((refine idx_c (xs := an) (by omega) fun a haa => ?_; have hha := (has_ok (planR P an (usN P an i) true).chosen a (by show (bestR P an (usN P an i)).2.2.length ≤ _; omega)).mono fun r h => h.trans (bool_eq (hasB_iff.2 (hpa a (List.mem_of_getElem? haa)))))); conv => whnf) | ((refine call_e hha ?_); conv => whnf) | ((refine idx_ms (enc := encPl) (x := planR P an (usN P an i) true) (by omega) (by rw [Int.toNat_natCast, List.getElem?_map, List.getElem?_range (by omega)]; rfl) ?_); conv => whnf) | ((with_reducible refine slc_e ?_); conv => whnf) | ((with_reducible refine callS_a ?_); conv => whnf) | ((with_reducible refine bld_a ?_); conv => whnf) | ((with_reducible refine own_e ?_); conv => whnf) | ((with_reducible refine mkmap_b ?_); conv => whnf) | (refine draw_i 12 plGL11r_0 (by decide +kernel) ?_; (conv => whnf); fail_if_success (guard_target =~ False)) | (refine draw_i 12 plGL11r_1 (by decide +kernel) ?_; (conv => whnf); fail_if_success (guard_target =~ False)) | (refine draw_i 12 plGL11r_2 (by decide +kernel) ?_; (conv => whnf); fail_if_success (guard_target =~ False)) | (refine draw_i 43 plGL11r_3 (by decide +kernel) ?_; (conv => whnf); fail_if_success (guard_target =~ False)) | (refine draw_i 43 plGL11r_4 (by decide +kernel) ?_; (conv => whnf); fail_if_success (guard_target =~ False)) | (refine draw_i 11 plGL11r_5 (by decide +kernel) ?_; (conv => whnf); fail_if_success (guard_target =~ False)) | (refine draw_i 11 plGL11r_6 (by decide +kernel) ?_; (conv => whnf); fail_if_success (guard_target =~ False)) | ((with_reducible refine And.intro ?_ ?_) <;> (conv => whnf)) | (with_reducible exact trivial) | ((with_reducible refine branch_d (fun hq => ?_) (fun hq => ?_)) <;> (try (exfalso; omega)) <;> (conv => whnf)) | ((with_reducible refine branch_e (fun hq => ?_) (fun hq => ?_)) <;> (try (exfalso; omega)) <;> (conv => whnf)) | ((with_reducible refine branch_n (fun hq => ?_) (fun hq => ?_)) <;> (try (exfalso; omega)) <;> (conv => whnf)) | ((with_reducible refine branch_i (fun hq => ?_) (fun hq => ?_)) <;> (try (exfalso; omega)) <;> (conv => whnf))))
        · exact ⟨j + 1, by omega, (le_mk (by repeat' (first | exact trivial | rfl | apply And.intro)) (by repeat' (first | exact trivial | rfl | apply And.intro)) rfl), by omega⟩
        · exact ⟨i + 1, by omega, by rw [hCS i]; exact (le_mk (by repeat' (first | exact trivial | rfl | apply And.intro)) (by repeat' (first | exact trivial | rfl | apply And.intro)) rfl), by omega⟩
    · have hiK' : i = K := by omega
      have hAp : Good Try.prog TT false 22 [.lst 1 ((chosenN P an i).map encS), ints an] (· = .bool true) := (apart_ok (chosenN P an i) an (by rw [hCN]; omega) (by omega) (fun l hl => by
        obtain ⟨j, hj⟩ := List.getElem?_of_mem hl
        have hjK : j < i := by have := (List.getElem?_eq_some_iff.1 hj).1; rw [hCN] at this; exact this
        have el : l = (bestR P an (usN P an j)).2.2 := by simpa [chosenN, hjK] using hj.symm
        have := (best_in (hg j (by omega)).1).1
        rw [el]; omega)).mono fun r ⟨b, h1, h2⟩ => by rw [h1, h2.2 (.inr (chosen_apt fun j hj => hg j (by omega)))]
      (conv => whnf); (repeat' (first | (refine arith_i ⟨by omega, by omega⟩ ?_; conv => whnf) | (refine arith_u ⟨by omega, by omega⟩ ?_; conv => whnf) | (refine arith_8 ⟨by omega, by omega⟩ ?_; conv => whnf) | (refine need_i (by first | omega | (simp only [List.length_cons, List.length_nil]; omega) | (simp only [List.length_append, List.length_cons, List.length_nil, List.length_map, List.length_replicate, List.length_modify]; omega)) ?_; conv => whnf) | ((with_reducible refine branch_tt ?_); conv => whnf) | ((with_reducible refine branch_ff ?_); conv => whnf) | (with_reducible refine branch_not ?_) | ((refine call_e hAp ?_); conv => whnf) | ((refine call_e awake11_ok ?_); conv => whnf) | ((with_reducible refine slc_e ?_); conv => whnf) | ((with_reducible refine callS_a ?_); conv => whnf) | ((with_reducible refine bld_a ?_); conv => whnf) | ((with_reducible refine own_e ?_); conv => whnf) | ((with_reducible refine mkmap_b ?_); conv => whnf) | (refine draw_i 12 plGL11r_0 (by decide +kernel) ?_; (conv => whnf); fail_if_success (guard_target =~ False)) | (refine draw_i 12 plGL11r_1 (by decide +kernel) ?_; (conv => whnf); fail_if_success (guard_target =~ False)) | (refine draw_i 12 plGL11r_2 (by decide +kernel) ?_; (conv => whnf); fail_if_success (guard_target =~ False)) | (refine draw_i 43 plGL11r_3 (by decide +kernel) ?_; (conv => whnf); fail_if_success (guard_target =~ False)) | (refine draw_i 43 plGL11r_4 (by decide +kernel) ?_; (conv => whnf); fail_if_success (guard_target =~ False)) | (refine draw_i 11 plGL11r_5 (by decide +kernel) ?_; (conv => whnf); fail_if_success (guard_target =~ False)) | (refine draw_i 11 plGL11r_6 (by decide +kernel) ?_; (conv => whnf); fail_if_success (guard_target =~ False)) | ((with_reducible refine And.intro ?_ ?_) <;> (conv => whnf)) | (with_reducible exact trivial) | ((with_reducible refine branch_d (fun hq => ?_) (fun hq => ?_)) <;> (try (exfalso; omega)) <;> (conv => whnf)) | ((with_reducible refine branch_e (fun hq => ?_) (fun hq => ?_)) <;> (try (exfalso; omega)) <;> (conv => whnf)) | ((with_reducible refine branch_n (fun hq => ?_) (fun hq => ?_)) <;> (try (exfalso; omega)) <;> (conv => whnf)) | ((with_reducible refine branch_i (fun hq => ?_) (fun hq => ?_)) <;> (try (exfalso; omega)) <;> (conv => whnf))))
      all_goals first
        | exact ret_p rfl rfl
end Go.Proofs.Ytengafkfgcdpeaa
end
