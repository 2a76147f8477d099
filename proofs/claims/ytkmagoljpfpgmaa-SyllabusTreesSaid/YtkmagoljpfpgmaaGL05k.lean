/- Layer 5 by the interpreter: the law SyllabusRoots. -/
import Derived.Test.YtkmagoljpfpgmaaGL05j
namespace Go.Proofs.Ytkmagoljpfpgmaa
set_option linter.unusedVariables false
set_option linter.unusedSimpArgs false
set_option linter.unnecessarySimpa false
set_option linter.unusedSectionVars false
set_option maxRecDepth 10000
open Go.RowKit

theorem words_fresh : ∀ (k : Nat) (x : ByteArray), words[k]? = some x → freshF (words.take k) x = 0 := by
  intro k x h
  have hk : k < 6 := (List.getElem?_eq_some_iff.1 h).1
  have : ∀ i : _root_.Fin 6, freshF (words.take i) (words[(i : Nat)]'i.2) = 0 := by decide +kernel
  have e := this ⟨k, hk⟩
  rw [List.getElem?_eq_getElem (show k < words.length from hk)] at h
  injection h with h
  rw [← h]; exact e
theorem take_words {α : Type} {f : α → ByteArray} {l : List α} {k : Nat} (hk : k ≤ l.length) (h : ∀ (i : Nat) (t : α), l[i]? = some t → words[i]? = some (f t)) : (l.take k).map f = words.take k := by
  apply List.ext_getElem?
  intro i
  rw [List.getElem?_map, List.getElem?_take, List.getElem?_take]
  by_cases hi : i < k
  · rw [if_pos hi, if_pos hi]
    have ⟨t, ht⟩ : ∃ t, l[i]? = some t := ⟨_, List.getElem?_eq_getElem (by omega)⟩
    rw [ht, h i t ht]; rfl
  · rw [if_neg hi, if_neg hi]; rfl
theorem base_topics {l : List Tpc} (h : BaseT l) : topicsF [] l = 0 := by
  have key : ∀ d k, k + d = l.length → topicsF ((l.take k).map (·.name)) (l.drop k) = 0 := by
    intro d
    induction d with
    | zero => intro k hk; rw [List.drop_eq_nil_of_le (by omega), topicsF]
    | succ d ih =>
      intro k hk
      have ⟨t, ht⟩ : ∃ t, l[k]? = some t := ⟨_, List.getElem?_eq_getElem (by omega)⟩
      obtain ⟨h1, h2⟩ := h.2 k t ht
      have hf : freshF ((l.take k).map (·.name)) t.name = 0 := by rw [take_words (by omega) fun i t ht => (h.2 i t ht).1]; exact words_fresh k _ h1
      rw [topics_step ht, hf, if_neg (by simp), if_neg (by simp [h2]), ih (k + 1) (by omega)]
  exact key l.length 0 (by omega)
theorem base_objs {l : List ByteArray} (h : BaseO l) : objsF [] l = 0 := by
  have key : ∀ d k, k + d = l.length → objsF (l.take k) (l.drop k) = 0 := by
    intro d
    induction d with
    | zero => intro k hk; rw [List.drop_eq_nil_of_le (by omega), objsF]
    | succ d ih =>
      intro k hk
      have ⟨t, ht⟩ : ∃ t, l[k]? = some t := ⟨_, List.getElem?_eq_getElem (by omega)⟩
      have h1 := h.2 k t ht
      have hf : freshF (l.take k) t = 0 := by
        have := take_words (f := id) (l := l) (k := k) (by omega) fun i t ht => h.2 i t ht
        rw [List.map_id] at this
        rw [this]; exact words_fresh k _ h1
      rw [objs_step ht, hf, if_neg (by simp), ih (k + 1) (by omega)]
  exact key l.length 0 (by omega)
theorem base_comps {l : List Cmp} (h : BaseC l) : compsF [] l = 0 := by
  have key : ∀ d k, k + d = l.length → compsF ((l.take k).map (·.name)) (l.drop k) = 0 := by
    intro d
    induction d with
    | zero => intro k hk; rw [List.drop_eq_nil_of_le (by omega), compsF]
    | succ d ih =>
      intro k hk
      have ⟨t, ht⟩ : ∃ t, l[k]? = some t := ⟨_, List.getElem?_eq_getElem (by omega)⟩
      obtain ⟨h1, h2⟩ := h.2 k t ht
      have hf : freshF ((l.take k).map (·.name)) t.name = 0 := by rw [take_words (by omega) fun i t ht => (h.2 i t ht).1]; exact words_fresh k _ h1
      rw [comps_step ht, hf, if_neg (by simp), if_neg (by simp [h2]), ih (k + 1) (by omega)]
  exact key l.length 0 (by omega)
theorem base_check {s : Syl} (h1 : BaseT s.tops) (h2 : BaseO s.objs) (h3 : BaseC s.comps) : checkS s = 0 := by
  have hl : lensB s = true := by
    have := h1.1; have := h2.1; have := h3.1
    simp [lensB]; omega
  rw [checkS, hl, if_neg (by simp), base_topics h1, if_neg (by simp), base_objs h2, if_neg (by simp), base_comps h3]
theorem nth_snoc {ms : List Int} {x : Int} {k : Nat} (hk : k < ms.length) : nth (ms ++ [x]) k = nth ms k := by
  unfold nth
  rw [List.getD_eq_getElem?_getD, List.getD_eq_getElem?_getD, List.getElem?_append_left hk]
theorem sum_snoc {ms : List Int} {x : Int} : sumN (nth (ms ++ [x])) (ms.length + 1) = sumN (nth ms) ms.length + x := by
  rw [sumN, sumN_congr fun k hk => nth_snoc hk, nth_of (x := x) (by simp)]
theorem rolled_at {s : Syl} {m : List Int} {j : Nat} (hj : j < s.tops.length) : (rolled s m)[j]? = some (rollS (parF s) (nth m) s.tops.length j) := by simp [rolled, hj]
end Go.Proofs.Ytkmagoljpfpgmaa
