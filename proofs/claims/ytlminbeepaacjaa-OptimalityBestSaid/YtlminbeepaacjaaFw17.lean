/- A plain interpreter, part 17: code; functions; from the interpreter to contracts. -/
import Derived.Test.YtlminbeepaacjaaFw16
namespace Go.Proofs.Ytlminbeepaacjaa
set_option linter.unusedVariables false
set_option linter.unusedSimpArgs false
set_option linter.unnecessarySimpa false
set_option linter.unusedSectionVars false
open Go.RowKit

/-- Code. -/
def acode (P : Program) (T : Nat → Ty) (tt : Nat) (cuts : Nat → Bool) : Code → (Ex → St → Prop) → St → Prop
  | .skip, Q, s => Q .norm s
  | .region id ops draw, Q, s => match cuts id with
    | false => match draw with
      | false => aops P T tt ops ops.toList (Q .norm) s
      | true => adraw P T tt ops (Q .norm) s
    | true => rest tt (fun s => match draw with
      | false => aops P T tt ops ops.toList (Q .norm) s
      | true => adraw P T tt ops (Q .norm) s) s
  | .seq x y, Q, s => acode P T tt cuts x (fun e s' => match e with | .norm => acode P T tt cuts y Q s' | .exit i => Q (.exit i) s' | .ret => Q .ret s') s
  | .cond c x y, Q, s => match s.eval c with | .bool v => branch v (acode P T tt cuts x Q s) (acode P T tt cuts y Q s) | _ => False
  | .block id body, Q, s => acode P T tt cuts body (fun e s' => match e with | .exit i => (match Nat.beq i id with | true => Q .norm s' | false => Q (.exit i) s') | .norm => Q .norm s' | .ret => Q .ret s') s
  | .loop body, Q, s => aloop tt (acode P T tt cuts body) Q s
  | .exit id, Q, s => Q (.exit id) s
  | .ret, Q, s => Q .ret s
  | _, _, _ => False
/-- All slots that are written lie in the frame. -/
def wf (n : Nat) : Code → Bool
  | .region _ ops _ => opsOk n ops.toList
  | .seq x y => wf n x && wf n y
  | .cond _ x y => wf n x && wf n y
  | .block _ x => wf n x
  | .loop x => wf n x
  | _ => true
section
variable {P : Program} {T : Nat → Ty} {tt : Nat} {w0 : En} {w w' : World} {G : Gh} {s : St} {a : Act} {n : Nat} {cuts : Nat → Bool}
theorem out_fin {Q : Ex → St → Prop} {e : Exit} {a : Act} {w : World} (h : Fin tt w0 n (Q .norm) e a w) : Out tt w0 n Q e a w := by cases e <;> first | exact h | exact h.elim
theorem code_sound (hmx : P.follows .mixedOrders = true) (hT : TabOk P T) : ∀ (c : Code) (Q : Ex → St → Prop) (G : Gh) (s : St) (a : Act) (w : World), wf n c = true → acode P T tt cuts c Q s → Sim tt w0 G s a w → a.tmps.size = n → c.wp P (Out tt w0 n Q) a w := by
  intro c
  induction c with
  | skip => exact fun Q G s a w _ h S hn => wp_skip ⟨G, s, S, hn, h, Kp.none⟩
  | region id ops draw =>
    have key : ∀ (Q : Ex → St → Prop) (G : Gh) (s : St) (a : Act) (w : World), wf n (.region id ops draw) = true → (match draw with | false => aops P T tt ops ops.toList (Q .norm) s | true => adraw P T tt ops (Q .norm) s) → Sim tt w0 G s a w → a.tmps.size = n → (Code.region id ops draw).wp P (Out tt w0 n Q) a w := by
      intro Q G s a w hw h S hn
      cases draw with
      | false =>
        refine wp_mono (wp_region ?_) fun e a w h => out_fin (Q := Q) h
        have := aops_sound (P := P) (w0 := w0) (tt := tt) hT (ops := ops) (n := n) hw (K := Q .norm) ops.size 0 (by omega) G s a w hn S (by simpa using h)
        rw [List.range_eq_range']
        exact this
      | true => exact wp_mono (draw_sound hmx hT (id := id) hw S hn h) fun e a w h => out_fin h
    intro Q G s a w hw h S hn
    simp only [acode] at h
    split at h
    · exact key Q G s a w hw h S hn
    · obtain ⟨s', hle, h'⟩ := rest_iff.1 h
      obtain ⟨G', S'⟩ := hle w0 G a w S
      exact key Q G' s' a w hw h' S' hn
  | seq x y ihx ihy =>
    intro Q G s a w hw h S hn
    simp only [wf, Bool.and_eq_true] at hw
    simp only [acode] at h
    refine wp_seq (wp_mono (ihx _ G s a w hw.1 h S hn) fun e a' w' ho => ?_)
    cases e with
    | normal =>
      obtain ⟨G', s', S', hn', h', _⟩ := ho
      exact ihy Q G' s' a' w' hw.2 h' S' hn'
    | exit i => exact ho
    | ret => exact ho
    | goto l => exact ho.elim
    | panic c => exact ho.elim
    | outgrown => exact ho.elim
  | cond c x y ihx ihy =>
    intro Q G s a w hw h S hn
    simp only [wf, Bool.and_eq_true] at hw
    simp only [acode] at h
    split at h
    · next b hb =>
      have hr := S.eval c
      rw [hb] at hr
      simp only [branch_iff] at h
      cases b with
      | true => exact wp_cond_true hr.bool_inv (ihx Q G s a w hw.1 (h.1 rfl) S hn)
      | false => exact wp_cond_false hr.bool_inv (ihy Q G s a w hw.2 (h.2 rfl) S hn)
    · exact h.elim
  | block id x ih =>
    intro Q G s a w hw h S hn
    simp only [acode] at h
    refine wp_block (wp_mono (ih _ G s a w hw h S hn) fun e a' w' ho => ?_)
    cases e with
    | normal => exact ho
    | exit i =>
      simp only [Exit.inBlock]
      obtain ⟨G', s', S', hn', h', hk⟩ := ho
      by_cases e : i = id
      · subst e
        rw [if_pos rfl]
        simp only [beq_self] at h'
        exact ⟨G', s', S', hn', h', hk⟩
      · rw [if_neg e]
        simp only [beq_ne e] at h'
        exact ⟨G', s', S', hn', h', hk⟩
    | ret => exact ho
    | goto l => exact ho.elim
    | panic c => exact ho.elim
    | outgrown => exact ho.elim
  | loop x ih =>
    intro Q G s a w hw h S hn
    simp only [acode, aloop_iff] at h
    obtain ⟨α, I, st, μ, x0, hI, hle, hstep⟩ := h
    obtain ⟨G', S'⟩ := hle w0 G a w S
    classical
    let J : Act → World → Nat → Prop := fun a w k => ∃ G x, Sim tt w0 G (st x) a w ∧ a.tmps.size = n ∧ I x ∧ μ x = k
    have hJ : ∀ a w, (∃ k, J a w k) → ∃ k, J a w k ∧ ∀ j, J a w j → k ≤ j := fun a w ⟨k, hk⟩ => by
      induction k using Nat.strongRecOn with
      | _ k ih =>
        by_cases hex : ∃ j, j < k ∧ J a w j
        · obtain ⟨j, hj, hJj⟩ := hex
          exact ih j hj hJj
        · exact ⟨k, hk, fun j hj => Nat.le_of_not_lt fun hlt => hex ⟨j, hlt, hj⟩⟩
    let μ' : Act → World → Nat := fun a w => if h : ∃ k, J a w k then (hJ a w h).choose else 0
    have hμ : ∀ a w (h : ∃ k, J a w k), J a w (μ' a w) ∧ ∀ j, J a w j → μ' a w ≤ j := fun a w h => by
      simp only [μ', h, dite_true]
      exact (hJ a w h).choose_spec
    refine wp_loop (fun a w => ∃ k, J a w k) μ' ⟨μ x0, G', x0, S', hn, hI, rfl⟩ fun a w hI' => ?_
    obtain ⟨⟨G1, s1, S1, hn1, hI1, hm1⟩, _⟩ := hμ a w hI'
    refine wp_mono (ih _ G1 (st s1) a w hw (hstep s1 hI1) S1 hn1) fun e a' w' ho => ?_
    cases e with
    | normal =>
      obtain ⟨G2, s2, S2, hn2, ⟨s3, hI3, hle, hlt⟩, _⟩ := ho
      obtain ⟨G3, S3⟩ := hle w0 G2 a' w' S2
      have hj : J a' w' (μ s3) := ⟨G3, s3, S3, hn2, hI3, rfl⟩
      exact ⟨⟨_, hj⟩, by have := (hμ a' w' ⟨_, hj⟩).2 _ hj; omega⟩
    | exit i => exact ho
    | ret => exact ho
    | goto l => exact ho.elim
    | panic c => exact ho.elim
    | outgrown => exact ho.elim
  | exit id => exact fun Q G s a w _ h S hn => wp_exit ⟨G, s, S, hn, h, Kp.none⟩
  | ret => exact fun Q G s a w _ h S hn => wp_ret ⟨G, s, S, hn, h, Kp.none⟩
  | _ => intro Q G s a w _ h; exact h.elim
end
end Go.Proofs.Ytlminbeepaacjaa
