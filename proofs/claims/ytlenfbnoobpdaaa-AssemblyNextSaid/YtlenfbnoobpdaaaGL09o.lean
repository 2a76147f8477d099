/- Layer 9: each choice completes exactly one leaf. -/
import Derived.Test.YtlenfbnoobpdaaaGL09n


namespace Go.Proofs.Ytlenfbnoobpdaaa
set_option linter.unusedVariables false
set_option linter.unusedSimpArgs false
set_option linter.unnecessarySimpa false
set_option linter.unusedSectionVars false
set_option maxRecDepth 10000
open Go.RowKit

theorem sumN_upd (f : Nat → Int) (k : Nat) (x : Int) : ∀ n, sumN (fun j => if j = k then x else f j) n = sumN f n + if k < n then x - f k else 0
  | 0 => by simp [sumN]
  | n + 1 => by
    simp only [sumN, sumN_upd f k x n]
    by_cases h : k < n
    · have h1 : ¬ n = k := by omega
      have h2 : k < n + 1 := by omega
      simp only [h, h1, h2, if_true, if_false]; omega
    · by_cases h' : n = k
      · subst h'; simp; omega
      · have h2 : ¬ k < n + 1 := by omega
        simp only [h, h', h2, if_false]; omega
/-- Whether the choice of the bits t completes a state: 1 or 0. -/
def com (c t : Nat) (s : List Int) : Int := if completeB s (subTo t c) = true then 1 else 0
theorem com_compl {c t : Nat} {s : List Int} (h : s.length = c) : (completeB s (subTo t c) = true) ↔ Compl s t := by subst h; exact com_sub
theorem compl_set {t v : Nat} {s : List Int} {x : Int} (hv : v < s.length) (hs : nth s v = -1) : Compl (s.set v x) t ↔ Compl s t ∧ (x = 1 → t.testBit v = true) ∧ (x = 0 → t.testBit v = false) := by
  constructor
  · intro h
    refine ⟨fun i hi => ?_, fun hx => ?_, fun hx => ?_⟩
    · have := h i (by simpa using hi)
      rw [nth_set] at this
      by_cases e : i = v
      · subst e; rw [hs]; exact ⟨fun h => by omega, fun h => by omega⟩
      · rw [if_neg (fun h => e h.1)] at this; exact this
    · have := (h v (by simpa using hv)).1
      rw [nth_set, if_pos ⟨rfl, hv⟩] at this
      exact this hx
    · have := (h v (by simpa using hv)).2
      rw [nth_set, if_pos ⟨rfl, hv⟩] at this
      exact this hx
  · rintro ⟨h, h1, h0⟩ i hi
    rw [nth_set]
    by_cases e : i = v ∧ v < s.length
    · rw [if_pos e, e.1]; exact ⟨h1, h0⟩
    · rw [if_neg e]; exact h i (by simpa using hi)
theorem com_split {c t v : Nat} {s : List Int} (hl : s.length = c) (hv : v < c) (hs : nth s v = -1) : com c t (s.set v 0) + com c t (s.set v 1) = com c t s := by
  have e0 := (com_compl (t := t) (show (s.set v 0).length = c by simpa using hl)).trans (compl_set (by omega) hs)
  have e1 := (com_compl (t := t) (show (s.set v 1).length = c by simpa using hl)).trans (compl_set (by omega) hs)
  have e := com_compl (t := t) hl
  unfold com
  by_cases hc : Compl s t
  · rw [if_pos (e.2 hc)]
    cases hb : t.testBit v with
    | true => rw [if_neg (fun h => by have := ((e0.1 h).2.2 rfl); rw [hb] at this; cases this), if_pos (e1.2 ⟨hc, fun _ => hb, fun h => by omega⟩)]; rfl
    | false => rw [if_pos (e0.2 ⟨hc, fun h => by omega, fun _ => hb⟩), if_neg (fun h => by have := ((e1.1 h).2.1 rfl); rw [hb] at this; cases this)]; rfl
  · rw [if_neg (fun h => hc (e.1 h)), if_neg (fun h => hc (e0.1 h).1), if_neg (fun h => hc (e1.1 h).1)]; rfl
def leafC (c t : Nat) (nodes : List Nd) (out : List (List Int)) (j : Nat) : Int := if (nodes.getD j nd0).kind ≠ 1 then com c t (out.getD j []) else 0
def pendC (c t : Nat) (nodes : List Nd) (out : List (List Int)) (kn : List Bool) (i j : Nat) : Int := if j < i then leafC c t nodes out j else if kn.getD j false = true then com c t (out.getD j []) else 0
theorem getD_set_self {α : Type} {xs : List α} {k : Nat} {x d : α} (h : k < xs.length) : (xs.set k x).getD k d = x := by rw [List.getD_eq_getElem?_getD, List.getElem?_set_self h]; rfl
theorem getD_set_ne' {α : Type} {xs : List α} {k j : Nat} {x d : α} (h : k ≠ j) : (xs.set k x).getD j d = xs.getD j d := by rw [List.getD_eq_getElem?_getD, List.getElem?_set_ne h, ← List.getD_eq_getElem?_getD]
theorem goS_count {c rows t : Nat} {nodes : List Nd} {o : List (List Int)} : ∀ (m i : Nat) (out : List (List Int)) (kn : List Bool), m = nodes.length - i → i ≤ nodes.length → out.length = nodes.length → kn.length = nodes.length → (∀ (j : Nat) s, kn[j]? = some true → out[j]? = some s → stOB s c = true) → sumN (pendC c t nodes out kn i) nodes.length = 1 →
    goS c rows nodes.length i out kn (nodes.drop i) = some o → sumN (leafC c t nodes o) nodes.length = 1 := by
  intro m
  induction m with
  | zero =>
    intro i out kn hm hi ho hk hst hsum hgo
    rw [drop_end (by omega)] at hgo
    simp only [goS, Option.some.injEq] at hgo
    subst hgo
    rw [← hsum]
    exact sumN_congr fun j hj => by rw [pendC, if_pos (by omega)]
  | succ m ih =>
    intro i out kn hm hi ho hk hst hsum hgo
    have hlt : i < nodes.length := by omega
    obtain ⟨y, hy⟩ : ∃ y, nodes[i]? = some y := ⟨_, List.getElem?_eq_getElem hlt⟩
    obtain ⟨b, hb⟩ : ∃ b, kn[i]? = some b := ⟨_, List.getElem?_eq_getElem (by omega)⟩
    rw [drop_at hy] at hgo
    cases b with
    | false => rw [go_none (step_un hb)] at hgo; cases hgo
    | true =>
      have hkn : kn.getD i false = true := getD_some hb
      have hyd : nodes.getD i nd0 = y := getD_some hy
      by_cases hkind : y.kind = 1
      · have e := step_br (c := c) (rows := rows) (N := nodes.length) hb hkind (out := out)
        by_cases hbr : brC c nodes.length i y out kn
        · rw [if_pos hbr] at e
          rw [go_some e] at hgo
          obtain ⟨b1, b2, b3, b4, b5, b6, b7, b8, b9, b10⟩ := hbr
          obtain ⟨st, hs⟩ : ∃ st, out[i]? = some st := ⟨_, List.getElem?_eq_getElem (by omega)⟩
          have ht := hst i st hb hs
          have hsl := st_len ht
          rw [getD_some hs] at hgo b10
          refine ih (i + 1) _ _ (by omega) (by omega) (by simp; exact ho) (by simp; exact hk) (known_tri (N := nodes.length) (by simp; exact ho) (by simp; exact hk) (by omega) (stO_set ht (by omega)) (known_tri ho hk (by omega) (stO_set ht (by omega)) hst)) ?_ hgo
          have hcs := com_split (t := t) hsl (show y.var.toNat < c by omega) b10
          have key : sumN (pendC c t nodes ((out.set y.zero.toNat (st.set y.var.toNat 0)).set y.one.toNat (st.set y.var.toNat 1)) ((kn.set y.zero.toNat true).set y.one.toNat true) (i + 1)) nodes.length
              = sumN (fun j => if j = y.one.toNat then com c t (st.set y.var.toNat 1) else (fun j => if j = y.zero.toNat then com c t (st.set y.var.toNat 0) else (fun j => if j = i then 0 else pendC c t nodes out kn i j) j) j) nodes.length := sumN_congr fun j hj => by
            by_cases e1 : j = y.one.toNat
            · subst e1
              rw [if_pos rfl, pendC, if_neg (by omega), getD_set_self (by simp; omega), if_pos rfl, getD_set_self (by simp; omega)]
            · rw [if_neg e1]
              by_cases e2 : j = y.zero.toNat
              · subst e2
                simp only [if_true]
                have q1 : ((kn.set y.zero.toNat true).set y.one.toNat true).getD y.zero.toNat false = true := by rw [getD_set_ne' (by omega), getD_set_self (by omega)]
                have q2 : ((out.set y.zero.toNat (st.set y.var.toNat 0)).set y.one.toNat (st.set y.var.toNat 1)).getD y.zero.toNat [] = st.set y.var.toNat 0 := by rw [getD_set_ne' (by omega), getD_set_self (by omega)]
                rw [pendC, if_neg (by omega), q1, if_pos rfl, q2]
              · simp only [if_neg e2]
                have eo : ((out.set y.zero.toNat (st.set y.var.toNat 0)).set y.one.toNat (st.set y.var.toNat 1)).getD j [] = out.getD j [] := by rw [getD_set_ne' (by omega), getD_set_ne' (by omega)]
                have ek : ((kn.set y.zero.toNat true).set y.one.toNat true).getD j false = kn.getD j false := by rw [getD_set_ne' (by omega), getD_set_ne' (by omega)]
                by_cases e3 : j = i
                · subst e3
                  rw [if_pos rfl, pendC, if_pos (by omega), leafC, hyd, if_neg (by simp [hkind])]
                · rw [if_neg e3]
                  unfold pendC leafC
                  rw [eo, ek]
                  by_cases e4 : j < i
                  · rw [if_pos e4, if_pos (by omega)]
                  · rw [if_neg e4, if_neg (by omega)]
          rw [key, sumN_upd, sumN_upd, sumN_upd, hsum]
          have q5 : y.zero.toNat < nodes.length := by omega
          have q6 : y.one.toNat < nodes.length := by omega
          have p1 : pendC c t nodes out kn i i = com c t st := by rw [pendC, if_neg (by omega), if_pos hkn, getD_some hs]
          have p2 : pendC c t nodes out kn i y.zero.toNat = 0 := by rw [pendC, if_neg (by omega), if_neg (by rw [b8]; decide)]
          have p3 : pendC c t nodes out kn i y.one.toNat = 0 := by rw [pendC, if_neg (by omega), if_neg (by rw [b9]; decide)]
          simp only [hlt, q5, q6, if_true, if_neg (show ¬ y.zero.toNat = i by omega), if_neg (show ¬ y.one.toNat = i by omega), if_neg (show ¬ y.one.toNat = y.zero.toNat by omega), p1, p2, p3]
          omega
        · rw [if_neg hbr] at e
          rw [go_none e] at hgo
          cases hgo
      · have e := step_leaf (c := c) (rows := rows) (N := nodes.length) hb hkind (out := out)
        by_cases hl : (infB rows y || bndB rows y) = true
        · rw [if_pos hl] at e
          rw [go_some e] at hgo
          refine ih (i + 1) _ _ (by omega) (by omega) ho hk hst ?_ hgo
          rw [← hsum]
          refine sumN_congr fun j hj => ?_
          unfold pendC
          by_cases e3 : j = i
          · subst e3
            rw [if_pos (by omega), if_neg (by omega), if_pos hkn, leafC, hyd, if_pos hkind]
          · by_cases e4 : j < i
            · rw [if_pos (by omega), if_pos e4]
            · rw [if_neg (by omega), if_neg e4]
        · rw [if_neg hl] at e
          rw [go_none e] at hgo
          cases hgo
theorem sumN_zero' {f : Nat → Int} : ∀ {n : Nat}, (∀ k, k < n → f k = 0) → sumN f n = 0
  | 0, _ => rfl
  | n + 1, h => by rw [sumN, sumN_zero' fun k hk => h k (by omega), h n (by omega)]; rfl
theorem states_count {P : Prog} {nodes : List Nd} {o : List (List Int)} {e : Int} (h : statesF P nodes = (some o, e)) (t : Nat) : sumN (leafC P.costs.length t nodes o) nodes.length = 1 := by
  have hg := states_good h
  unfold statesF at h
  rw [if_neg (by rw [hg.2.1]; decide), if_neg (by omega), if_neg (by omega)] at h
  split at h
  · cases h
  · next o' ho =>
    simp only [Prod.mk.injEq, Option.some.injEq] at h
    obtain ⟨rfl, rfl⟩ := h
    have h0 := hg.2.2.1
    refine goS_count (rows := P.rows.length) (nodes.length - 0) 0 ((List.replicate nodes.length []).set 0 (List.replicate P.costs.length (-1))) ((List.replicate nodes.length false).set 0 true) rfl (Nat.zero_le _) (by simp) (by simp) ?_ ?_ (by simpa using ho)
    · refine known_tri (N := nodes.length) (by simp) (by simp) (by omega) ?_ (fun j s hj => ?_)
      · simp [stOB, tri9]
      · rw [List.getElem?_replicate] at hj
        split at hj <;> simp at hj
    · have hcom : com P.costs.length t (List.replicate P.costs.length (-1)) = 1 := by
        rw [com, if_pos]
        rw [com_compl (by simp)]
        intro i hi
        have : nth (List.replicate P.costs.length (-1)) i = -1 := by
          rw [List.length_replicate] at hi
          simp [nth, List.getD_eq_getElem?_getD, hi]
        rw [this]
        exact ⟨fun h => by omega, fun h => by omega⟩
      have key : sumN (pendC P.costs.length t nodes ((List.replicate nodes.length []).set 0 (List.replicate P.costs.length (-1))) ((List.replicate nodes.length false).set 0 true) 0) nodes.length = sumN (fun j => if j = 0 then 1 else (fun _ => (0 : Int)) j) nodes.length := sumN_congr fun j hj => by
        unfold pendC
        rw [if_neg (by omega)]
        by_cases e : j = 0
        · subst e
          rw [getD_set_self (by simpa using h0), if_pos rfl, getD_set_self (by simpa using h0), if_pos rfl, hcom]
        · rw [getD_set_ne' (by omega), if_neg e, if_neg]
          simp [List.getD_eq_getElem?_getD, List.getElem?_replicate, hj]
      rw [key, sumN_upd, sumN_zero' (fun _ _ => rfl), if_pos h0]
      rfl
end Go.Proofs.Ytlenfbnoobpdaaa
