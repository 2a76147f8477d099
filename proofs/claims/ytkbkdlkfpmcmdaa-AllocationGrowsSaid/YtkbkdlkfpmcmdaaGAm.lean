/- (For the seats with the dice.) More moves of the interpreter: elements of lists of encoded data. -/
import Derived.Test.YtkbkdlkfpmcmdaaGL24a
namespace Go.Proofs.Ytkbkdlkfpmcmdaa
set_option linter.unusedVariables false
set_option linter.unusedSimpArgs false
set_option linter.unnecessarySimpa false
set_option linter.unusedSectionVars false
set_option maxRecDepth 10000
open Go.RowKit
theorem idx_c {α : Type} {enc : α → List AV} {xs : List α} {k : Nat} {K : List AV → Prop} (h1 : k < xs.length) (h : ∀ x, xs[k]? = some x → K (enc x)) : idx (xs.map enc) (k : Int) K :=
  idx_m (by omega) (by omega) fun x hx => h x (by rwa [Int.toNat_natCast] at hx)
theorem idx_cs {α : Type} {enc : α → List AV} {xs : List α} {k : Nat} {x : α} {K : List AV → Prop} (h1 : xs[k]? = some x) (h : K (enc x)) : idx (xs.map enc) (k : Int) K :=
  idx_i (by omega) (by rw [Int.toNat_natCast, List.getElem?_map, h1]; rfl) h
theorem idx_ms {α : Type} {enc : α → List AV} {xs : List α} {n : Int} {x : α} {K : List AV → Prop} (h0 : 0 ≤ n) (h1 : xs[n.toNat]? = some x) (h : K (enc x)) : idx (xs.map enc) n K :=
  idx_i h0 (by rw [List.getElem?_map, h1]; rfl) h
theorem idx_r {c : List AV} {n : Nat} {i : Int} {K : List AV → Prop} (h0 : 0 ≤ i) (h1 : i < n) (h : K c) : idx (List.replicate n c) i K :=
  idx_i h0 (by rw [List.getElem?_replicate, if_pos (by omega)]) h
theorem drop_at {α : Type} {xs : List α} {k : Nat} {x : α} (h : xs[k]? = some x) : xs.drop k = x :: xs.drop (k + 1) := by
  obtain ⟨h1, h2⟩ := List.getElem?_eq_some_iff.1 h
  rw [List.drop_eq_getElem_cons h1, h2]
theorem drop_end {α : Type} {xs : List α} {k : Nat} (h : xs.length ≤ k) : xs.drop k = [] := List.drop_eq_nil_of_le h
structure Hid (p : Prop) : Prop where
  out : p
section
variable {P : Program} {T : Nat → Ty} {tt : Nat}
theorem loop_share {body : (Ex → St → Prop) → St → Prop} {Q : Ex → St → Prop} {s st : St} (h : aloop tt body Q st) (hle : Le tt s st) : aloop tt body Q s := by
  rw [aloop_iff] at h ⊢
  obtain ⟨α, I, f, μ, x0, h1, h2, h3⟩ := h
  exact ⟨α, I, f, μ, x0, h1, hle.trans h2, h3⟩
theorem loop_i2 {α β : Type} {s : St} (I : α → β → Prop) (st : α → β → St) (μ : α → β → Nat) {body : (Ex → St → Prop) → St → Prop} {Q : Ex → St → Prop} (a0 : α) (b0 : β) (h0 : I a0 b0) (hle : Le tt s (st a0 b0))
    (h : ∀ a b, I a b → body (fun e s' => match e with | .norm => ∃ a' b', I a' b' ∧ Le tt s' (st a' b') ∧ μ a' b' < μ a b | .exit i => Q (.exit i) s' | .ret => Q .ret s') (st a b)) : aloop tt body Q s :=
  loop_i (fun x : α × β => I x.1 x.2) (fun x => st x.1 x.2) (fun x => μ x.1 x.2) (a0, b0) h0 hle fun x hx => by
    refine Eq.mp (congrArg (fun K => body K (st x.1 x.2)) (funext fun e => funext fun s' => ?_)) (h x.1 x.2 hx)
    cases e <;> first | rfl | simp only [Prod.exists]
theorem loop_i3 {α β γ : Type} {s : St} (I : α → β → γ → Prop) (st : α → β → γ → St) (μ : α → β → γ → Nat) {body : (Ex → St → Prop) → St → Prop} {Q : Ex → St → Prop} (a0 : α) (b0 : β) (c0 : γ) (h0 : I a0 b0 c0) (hle : Le tt s (st a0 b0 c0))
    (h : ∀ a b c, I a b c → body (fun e s' => match e with | .norm => ∃ a' b' c', I a' b' c' ∧ Le tt s' (st a' b' c') ∧ μ a' b' c' < μ a b c | .exit i => Q (.exit i) s' | .ret => Q .ret s') (st a b c)) : aloop tt body Q s :=
  loop_i (fun x : α × β × γ => I x.1 x.2.1 x.2.2) (fun x => st x.1 x.2.1 x.2.2) (fun x => μ x.1 x.2.1 x.2.2) (a0, b0, c0) h0 hle fun x hx => by
    refine Eq.mp (congrArg (fun K => body K (st x.1 x.2.1 x.2.2)) (funext fun e => funext fun s' => ?_)) (h x.1 x.2.1 x.2.2 hx)
    cases e <;> first | rfl | simp only [Prod.exists]
/-- A region that draws its order ahead of a loop: the loop is gone through once. -/
theorem draw_loop {ops : Array Oper} {K : St → Prop} {s0 : St} {body : (Ex → St → Prop) → St → Prop} {Q : Ex → St → Prop} (st : St) (hK : ∀ s, aloop tt body Q s → K s) (h : aloop tt body Q st) (h2 : Hid (∀ s, Le tt s st → K s) → adraw P T tt ops K s0) : adraw P T tt ops K s0 :=
  h2 ⟨fun s hle => hK s (loop_share h hle)⟩
/-- A region that draws its order ahead of a cut: what comes behind is gone through once. -/
theorem draw_cut {ops : Array Oper} {K K' : St → Prop} {s0 : St} (st : St) (hK : ∀ s, rest tt K' s → K s) (h : K' st) (h2 : Hid (∀ s, Le tt s st → K s) → adraw P T tt ops K s0) : adraw P T tt ops K s0 :=
  h2 ⟨fun s hle => hK s (rest_i st hle h)⟩
end
end Go.Proofs.Ytkbkdlkfpmcmdaa
