/- Layer 25, plainly: more capacity, more papers, one more marker, one script less. -/
import Derived.Test.YtkbkdlkfpmcmdaaGL25x
namespace Go.Proofs.Ytkbkdlkfpmcmdaa
set_option linter.unusedVariables false
set_option linter.unusedSimpArgs false
set_option linter.unnecessarySimpa false
set_option linter.unusedSectionVars false
set_option maxRecDepth 10000
theorem setAt_eq {α : Type} {l : List α} {i : Nat} {m m' : α} (hm : l[i]? = some m) (k : Nat) : (l.set i m')[k]? = if k = i then some m' else l[k]? := by
  have hi := (List.getElem?_eq_some_iff.1 hm).1
  rw [List.getElem?_set]
  by_cases h : i = k
  · subst h; rw [if_pos rfl, if_pos hi, if_pos rfl]
  · rw [if_neg h, if_neg (fun e => h e.symm)]
theorem set_enc {α : Type} {l : List α} {i : Nat} {m m' : α} {enc : α → List AV} {f : List AV → List AV} {n : Int} (hn : n = i) (hm : l[i]? = some m) (hf : f (enc m) = enc m') : (l.map enc).modify n.toNat f = (l.set i m').map enc := by
  rw [hn, Int.toNat_natCast]
  refine List.ext_getElem? fun k => ?_
  rw [List.getElem?_modify, List.getElem?_map, List.getElem?_map, setAt_eq hm]
  by_cases h : i = k
  · subst h; rw [hm]; simp [hf]
  · rw [if_neg (fun e => h e.symm)]; simp [h]
theorem set_ok {l : List Mrk} {i : Nat} {m m' : Mrk} (hl : MksOk l) (hm : l[i]? = some m) (hg : GoodMk m') (hid : m'.id = m.id) : MksOk (l.set i m') := by
  refine ⟨by rw [List.length_set]; exact hl.len, fun k x hx => ?_, fun j k a b hjk ha hb => ?_⟩
  · rw [setAt_eq hm] at hx
    split at hx
    · injection hx with hx; rw [← hx]; exact hg
    · exact hl.all k x hx
  · rw [setAt_eq hm] at ha hb
    split at ha <;> split at hb
    · omega
    · next h1 h2 => injection ha with ha; rw [← ha, hid]; subst h1; exact hl.asc j k m b hjk hm hb
    · next h1 h2 => injection hb with hb; rw [← hb, hid]; subst h2; exact hl.asc j k a m hjk ha hm
    · exact hl.asc j k a b hjk ha hb
theorem app_ok {l : List Mrk} {m : Mrk} (hl : MksOk l) (h5 : l.length ≤ 15) (hg : GoodMk m) (hid : ∀ (k : Nat) (x : Mrk), l[k]? = some x → x.id < m.id) : MksOk (l ++ [m]) := by
  refine ⟨by simp; omega, fun k x hx => ?_, fun j k a b hjk ha hb => ?_⟩
  · rcases snoc_at hx with ⟨_, h'⟩ | ⟨_, rfl⟩
    · exact hl.all k x h'
    · exact hg
  · rcases snoc_at ha with ⟨h1, h'⟩ | ⟨h1, rfl⟩
    · rcases snoc_at hb with ⟨h2, h''⟩ | ⟨h2, rfl⟩
      · exact hl.asc j k a b hjk h' h''
      · exact hid j a h'
    · rcases snoc_at hb with ⟨h2, h''⟩ | ⟨h2, rfl⟩ <;> omega
structure MoreM (l l' : List Mrk) : Prop where
  len : l.length ≤ l'.length
  at' : ∀ (k : Nat) (m : Mrk), l[k]? = some m → ∃ m', l'[k]? = some m' ∧ m.cap ≤ m'.cap ∧ ∀ x : Scr, (x.paper = 0 ∨ x.paper = 1) ∨ True → mayB m x = true → mayB m' x = true
theorem lst_more {l l' : List Mrk} {s : List Scr} {q a : Nat} (h : MoreM l l') (hL : lstF l s q = some a) : ∃ b, lstF l' s q = some b ∧ b ≤ a := by
  cases hk : okK (q : Int) with
  | false => rw [lstF, if_neg (by simp [hk])] at hL; cases hL
  | true =>
    rw [lstF, if_pos hk] at hL
    rw [lstF, if_pos hk]
    refine least_more hL h.len (fun m hm => ?_) fun j m hj hm hE => ?_
    · obtain ⟨x, hx⟩ : ∃ x, l[m]? = some x := ⟨_, List.getElem?_eq_getElem hm⟩
      obtain ⟨x', hx', hc, -⟩ := h.at' m x hx
      rw [capF_at hx, capF_at hx']; omega
    · obtain ⟨x, hx⟩ : ∃ x, l[m]? = some x := ⟨_, List.getElem?_eq_getElem hm⟩
      obtain ⟨y, hy⟩ : ∃ y, s[j]? = some y := ⟨_, List.getElem?_eq_getElem hj⟩
      obtain ⟨x', hx', -, hm'⟩ := h.at' m x hx
      rw [elF_at hy hx] at hE
      rw [elF_at hy hx']
      exact hm' y (.inr trivial) hE
theorem lst_less {l : List Mrk} {s : List Scr} {q a : Nat} (h0 : 0 < s.length) (hL : lstF l s q = some a) : ∃ b, lstF l (s.drop 1) q = some b ∧ b ≤ a := by
  cases s with
  | nil => simp at h0
  | cons x s =>
    cases hk : okK (q : Int) with
    | false => rw [lstF, if_neg (by simp [hk])] at hL; cases hL
    | true =>
      rw [lstF, if_pos hk] at hL
      rw [lstF, if_pos hk]
      exact least_less hL
theorem drop_ok {s : List Scr} (hs : ScsOk s) : ScsOk (s.drop 1) := by
  refine ⟨by rw [List.length_drop]; have := hs.len; omega, fun k x hx => ?_, fun k a b ha hb => ?_⟩
  · rw [List.getElem?_drop] at hx; exact hs.all _ x hx
  · rw [List.getElem?_drop] at ha hb
    exact hs.asc (1 + k) a b ha (by rw [show 1 + k + 1 = 1 + (k + 1) by omega]; exact hb)
theorem more_set {l : List Mrk} {i : Nat} {m m' : Mrk} (hm : l[i]? = some m) (hc : m.cap ≤ m'.cap) (hy : ∀ x, mayB m x = true → mayB m' x = true) : MoreM l (l.set i m') := by
  refine ⟨by rw [List.length_set]; exact Nat.le_refl _, fun k x hx => ?_⟩
  rw [setAt_eq hm]
  by_cases h : k = i
  · subst h; rw [hm] at hx; injection hx with hx; subst hx
    exact ⟨m', by rw [if_pos rfl], hc, fun x _ => hy x⟩
  · exact ⟨x, by rw [if_neg h]; exact hx, Int.le_refl _, fun _ _ h => h⟩
theorem more_app {l : List Mrk} {m : Mrk} : MoreM l (l ++ [m]) :=
  ⟨by simp, fun k x hx => ⟨x, by rw [List.getElem?_append_left (List.getElem?_eq_some_iff.1 hx).1]; exact hx, Int.le_refl _, fun _ _ h => h⟩⟩
theorem good_cap {m : Mrk} (hg : GoodMk m) (hc : m.cap ≤ 6) : GoodMk ⟨m.id, m.centre, m.level, m.cap + 1, m.papers⟩ := by
  obtain ⟨g1, g2, g3, g4, g5, g6, g7⟩ := hg
  exact ⟨g1, g2, g3, by simp only; omega, g5, g6, g7⟩
theorem pap01 : (∀ (k : Nat) (x : Int), ([0, 1] : List Int)[k]? = some x → papB x = true) ∧ ∀ i : Nat, 0 < i → i < ([0, 1] : List Int).length → nth [0, 1] (i - 1) < nth [0, 1] i := by
  refine ⟨fun k x hx => ?_, fun i h0 hi => ?_⟩
  · have hm := List.mem_of_getElem? hx
    simp only [List.mem_cons, List.not_mem_nil, or_false] at hm
    rcases hm with rfl | rfl <;> decide
  · simp only [List.length_cons, List.length_nil] at hi
    obtain rfl : i = 1 := by omega
    decide
theorem good_pap {m : Mrk} (hg : GoodMk m) : GoodMk ⟨m.id, m.centre, m.level, m.cap, [0, 1]⟩ := by
  obtain ⟨g1, g2, g3, g4, g5, g6, g7⟩ := hg
  exact ⟨g1, g2, g3, g4, pap01.1, pap01.2, by simp⟩
theorem good_90 : GoodMk ⟨90, -1, 1, 3, [0, 1]⟩ := ⟨by decide, by decide, by decide, by decide, pap01.1, pap01.2, by simp⟩
theorem may_cap {m : Mrk} {c : Int} (x : Scr) (h : mayB m x = true) : mayB ⟨m.id, m.centre, m.level, c, m.papers⟩ x = true := h
theorem may_pap {m : Mrk} (hp : ∀ x ∈ m.papers, x = 0 ∨ x = 1) (x : Scr) (h : mayB m x = true) : mayB ⟨m.id, m.centre, m.level, m.cap, [0, 1]⟩ x = true := by
  unfold mayB hasP at h ⊢
  rw [Bool.and_eq_true, List.any_eq_true] at h
  obtain ⟨h1, y, hy, hxy⟩ := h
  rw [beq_iff_eq] at hxy
  rw [Bool.and_eq_true]
  refine ⟨h1, ?_⟩
  rcases hp y hy with e | e <;> rw [hxy, e] <;> rfl
end Go.Proofs.Ytkbkdlkfpmcmdaa
