/- Layer 9: what is proved is sound; the law OptimalitySound. -/
import Derived.Test.YtlenfbnoobpdaaaGL09p
import Derived.Test.YtlenfbnoobpdaaaGBr3

namespace Go.Proofs.Ytlenfbnoobpdaaa
set_option linter.unusedVariables false
set_option linter.unusedSimpArgs false
set_option linter.unnecessarySimpa false
set_option linter.unusedSectionVars false
set_option maxRecDepth 10000
open Go.RowKit

theorem blocked_not {P : Prog} {s : List Int} {r : Row} {t : Nat} (hv : validB P = true) (hr : r ∈ P.rows) (hs : stOB s P.costs.length = true) (hc : Compl s t) (hb : blockedB s r = true) : meetB (subTo t P.costs.length) r = false := by
  have hl := st_len hs
  have h1 := blocked_span hv hr hs
  have h2 := span_holds (cs := r.coefs) hc (tri_all hs) s.length (Nat.le_refl _)
  have hcl := (valid_rows hv hr).1
  have h3 : spanF r.coefs s = spanTo r.coefs s s.length := by rw [spanF, h1.1, if_pos rfl, hcl, hl]
  rw [h1.2, h3] at hb
  rw [hl] at h2 hb
  cases hm : meetB (subTo t P.costs.length) r with
  | false => rfl
  | true =>
    exfalso
    simp only [meetB, Bool.and_eq_true, decide_eq_true_eq, sumOf_sub] at hm
    simp at hb
    omega
theorem goP_spec {P : Prog} : ∀ (ss : List (List Int)) (ns : List Nd) (best : Int) (sm : Bool) (b : Int) (s' : Bool), goP P ss ns best sm = (b, s', 0) → (sm = true → s' = true ∧ b ≤ best) ∧ ∀ (j : Nat) s n, ss[j]? = some s → ns[j]? = some n → (n.kind = 2 → blockedB s (rowAt P.rows n.row.toNat) = true) ∧ (n.kind = 3 → s' = true ∧ b ≤ boundF P s n)
  | [], ns, best, sm, b, s', h => by
    simp only [goP, Prod.mk.injEq] at h
    exact ⟨fun hh => ⟨by rw [← h.2.1]; exact hh, by omega⟩, fun j s n h1 => by simp at h1⟩
  | s :: ss, [], best, sm, b, s', h => by
    simp only [goP, Prod.mk.injEq] at h
    exact ⟨fun hh => ⟨by rw [← h.2.1]; exact hh, by omega⟩, fun j s n _ h1 => by simp at h1⟩
  | s :: ss, n :: ns, best, sm, b, s', h => by
    rw [goP] at h
    by_cases h2 : n.kind = 2
    · rw [if_pos h2] at h
      by_cases hb : blockedB s (rowAt P.rows n.row.toNat) = false
      · rw [if_pos hb] at h
        simp at h
      · rw [if_neg hb] at h
        have ih := goP_spec ss ns best sm b s' h
        refine ⟨ih.1, fun j x y g1 g2 => ?_⟩
        cases j with
        | zero =>
          simp at g1 g2
          subst g1 g2
          exact ⟨fun _ => by simpa using hb, fun h3 => by omega⟩
        | succ j => exact ih.2 j x y (by simpa using g1) (by simpa using g2)
    · rw [if_neg h2] at h
      by_cases h3 : n.kind = 3
      · rw [if_pos h3] at h
        have ih := goP_spec ss ns _ true b s' h
        have hbb := ih.1 rfl
        refine ⟨fun hh => ⟨hbb.1, ?_⟩, fun j x y g1 g2 => ?_⟩
        · have := hbb.2
          split at this
          · next hor => rcases hor with ho | ho
                        · rw [hh] at ho; cases ho
                        · omega
          · exact this
        · cases j with
          | zero =>
            simp at g1 g2
            subst g1 g2
            refine ⟨fun h => by omega, fun _ => ⟨hbb.1, ?_⟩⟩
            have := hbb.2
            split at this
            · exact this
            · next hor => have : ¬ boundF P s n < best := fun hh => hor (.inr hh)
                          omega
          | succ j => exact ih.2 j x y (by simpa using g1) (by simpa using g2)
      · rw [if_neg h3] at h
        have ih := goP_spec ss ns best sm b s' h
        refine ⟨ih.1, fun j x y g1 g2 => ?_⟩
        cases j with
        | zero =>
          simp at g1 g2
          subst g1 g2
          exact ⟨fun h => absurd h h2, fun h => absurd h h3⟩
        | succ j => exact ih.2 j x y (by simpa using g1) (by simpa using g2)
theorem sumN_ex {f : Nat → Int} : ∀ {n : Nat}, sumN f n = 1 → ∃ j, j < n ∧ f j ≠ 0
  | 0, h => by simp [sumN] at h
  | n + 1, h => by
    by_cases e : f n = 0
    · obtain ⟨j, hj, hf⟩ := sumN_ex (f := f) (n := n) (by rw [sumN, e] at h; omega)
      exact ⟨j, by omega, hf⟩
    · exact ⟨n, by omega, e⟩
/-- A bound that is proved is at most the cost of every choice that meets the program. -/
theorem proved_sound {P : Prog} {nodes : List Nd} {b : Int} {sm : Bool} (h : provedF P nodes = (b, sm, 0)) {t : Nat} (hm : meetsB P (subTo t P.costs.length) = true) : sm = true ∧ b ≤ costF P (subTo t P.costs.length) := by
  rcases states_err (P := P) (nodes := nodes) with ⟨o, ho⟩ | ⟨e, he, ho⟩
  · obtain ⟨-, hv, h0, h8, hol, hgood⟩ := states_good ho
    rw [provedF, ho] at h
    have hp := goP_spec o nodes 0 false b sm h
    obtain ⟨j, hj, hf⟩ := sumN_ex (states_count ho t)
    obtain ⟨n, hn⟩ : ∃ n, nodes[j]? = some n := ⟨_, List.getElem?_eq_getElem hj⟩
    obtain ⟨s, hs⟩ : ∃ s, o[j]? = some s := ⟨_, List.getElem?_eq_getElem (by omega)⟩
    have hg := hgood j s n hs hn
    have hsl := st_len hg.1
    have hnc := node_cases hg.2
    rw [leafC, getD_some hn, getD_some hs] at hf
    have hk : n.kind ≠ 1 := fun e => hf (by rw [if_neg (by simp [e])])
    rw [if_pos hk, com] at hf
    have hc : Compl s t := by
      rw [← com_compl hsl]
      cases hcc : completeB s (subTo t P.costs.length) with
      | true => rfl
      | false => rw [hcc] at hf; simp at hf
    have hq := hp.2 j s n hs hn
    have hor := hg.2 hk
    rw [Bool.or_eq_true] at hor
    rcases hor with hi | hb
    · have h2 : n.kind = 2 := by simp [infB] at hi; omega
      have hrow := hnc.1 h2
      exfalso
      have := blocked_not hv (rowAt_mem (show n.row.toNat < P.rows.length by omega)) hg.1 hc (hq.1 h2)
      simp only [meetsB, Bool.and_eq_true] at hm
      have h3 := List.all_eq_true.1 hm.2 _ (rowAt_mem (show n.row.toNat < P.rows.length by omega))
      rw [this] at h3
      cases h3
    · have h3 : n.kind = 3 := by rw [bnd_row] at hb; simp at hb; exact hb.1
      have h4 := hq.2 h3
      have h5 := bound_sound hv hb hsl (tri_all hg.1) hc hm
      exact ⟨h4.1, by omega⟩
  · rw [provedF, ho] at h
    simp at h
    omega
def ndOf (r : List Int) : Nd := ⟨r.getD 0 0, r.getD 1 0, r.getD 2 0, r.getD 3 0, r.getD 4 0, r.getD 5 0, r.getD 6 0⟩
theorem ndOf_enc {r : List Int} (h : r.length = 7) : r.map (AV.int .i64) = encN (ndOf r) := by
  match r, h with
  | [a, b, c, d, e, f, g], _ => rfl
theorem nodes_row {w : World} {a : Option Addr} {len cap : Nat} {zs : List (List Int)} (h : IsRecs w 7 a len cap zs) : RepV w No (ndsV (zs.map ndOf)) (.slice a len cap) := by
  have e : (zs.map fun r => r.map (AV.int .i64)) = (zs.map ndOf).map encN := by
    rw [List.map_map]
    exact List.map_congr_left fun r hr => ndOf_enc (h.2.1 r hr)
  have := recs_row (by omega) h
  rw [e] at this
  exact this
end Go.Proofs.Ytlenfbnoobpdaaa
