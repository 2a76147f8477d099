/- A plain interpreter, part 13: calls of functions by their contracts. -/
import Derived.Test.YtlminbeepaacjaaFw12
namespace Go.Proofs.Ytlminbeepaacjaa
set_option linter.unusedVariables false
set_option linter.unusedSimpArgs false
set_option linter.unnecessarySimpa false
set_option linter.unusedSectionVars false
set_option linter.unusedSectionVars false
open Go.RowKit

section
variable {P : Program} {T : Nat → Ty} {tt : Nat} {w0 : En} {w w' : World} {G : Gh} {s : St} {a : Act} {B : Nat} {Q : Exit → Act → World → Prop}
theorem run_enter {f : Nat} (h : Enters P f) (args : Array Value) (w : World) : (callFunc f args).run P w = .ok (.enter f args) w := by
  obtain ⟨fn, c, h1, h2, h3⟩ := h
  have h2' : ¬ fn.name = "runtime.NumGoroutine" := by simpa using h2
  simp [callFunc, program, Sem.run, h1, h2', h3]
/-- What the callee may not look at: all that the caller writes, but for the slices that it gets to see. -/
def Cut (G : Gh) (tags : List Nat) : Nat → Prop := fun b => GX G b ∧ ∀ t, t ∈ tags → ∀ v, G.own t = some v → v.ownBlock ≠ some b
section lower
variable {tags : List Nat} {tp : Option Nat} {h : Option Addr × Nat × Nat} (S : Sim tt w0 G s a w) (htp : tp = G.tape ∨ tp = none)
include S htp
theorem cut_gx {b : Nat} (hb : GX (G0 tp (Cut G tags) h) b) : GX G b ∧ ∀ t, t ∈ tags → ∀ v, G.own t = some v → v.ownBlock ≠ some b := by
  rcases hb with (⟨t, ht⟩ | ⟨t, v, ht, _⟩ | ht) | hb
  · cases ht
  · cases ht
  · have e : G.tape = some b := by rcases htp with e | e; exact e ▸ ht; rw [show (G0 tp (Cut G tags) h).tape = tp from rfl, e] at ht; cases ht
    exact ⟨.inl (.inr (.inr e)), fun t _ v hv hb => S.tapeOwn t v b e hv hb⟩
  · exact hb
theorem gm0 {b : Nat} (hb : GM (G0 tp (Cut G tags) h) b) : G.tape = some b := by
  rcases hb with ⟨t, ht⟩ | ⟨t, v, ht, _⟩ | ht
  · cases ht
  · cases ht
  · rcases htp with e | e
    · exact e ▸ ht
    · rw [show (G0 tp (Cut G tags) h).tape = tp from rfl, e] at ht; cases ht
theorem low_rep {v : AV} {u : Value} (hr : RepV w (GX G) v u) : RepV w (GX (G0 tp (Cut G tags) h)) v u := hr.move (fun _ _ _ => rfl) fun b _ hb => (cut_gx S htp hb).1
theorem low_own {t e z : Nat} {es : List (List AV)} {u : Value} (ht : t ∈ tags) (hr : RC w0.heap.size G w (.own t e z es) u) : RepV w (GX (G0 tp (Cut G tags) h)) (.lst z es) u :=
  hr.2.rep (fun b _ hb => (cut_gx S htp hb).1) fun b hb hx => (cut_gx S htp hx).2 t ht u hr.1 hb
omit S htp
theorem own_drop {cs : List AV} {n t : Nat} (ht : t ∈ ownTags (cs.drop n)) : t ∈ ownTags cs := by
  induction n generalizing cs with
  | zero => exact ht
  | succ n ih =>
    cases cs with
    | nil => simpa using ht
    | cons c cs => have := ih (cs := cs) (by simpa using ht); cases c <;> simp [ownTags, this]
include S
theorem plain_sound : ∀ {cs : List AV} {us : List Value} {K : List AV → Prop}, (∀ t, t ∈ ownTags cs → t ∈ tags) → plainL cs K → All2 (RC w0.heap.size G w) cs us → ∃ cs', K cs' ∧ All2 (fun c u => ∀ tp h, (tp = G.tape ∨ tp = none) → RepV w (GX (G0 tp (Cut G tags) h)) c u) cs' us
  | [], [], K, _, hk, _ => ⟨[], hk, trivial⟩
  | c :: cs, u :: us, K, ht, hk, hA => by
    have ht' : ∀ t, t ∈ ownTags cs → t ∈ tags := fun t h' => ht t (by cases c <;> simp [ownTags, h'])
    cases c
    case int k n => obtain ⟨cs', h1, h2⟩ := plain_sound ht' hk hA.2; exact ⟨_, h1, fun tp h htp => low_rep S htp hA.1, h2⟩
    case bool b => obtain ⟨cs', h1, h2⟩ := plain_sound ht' hk hA.2; exact ⟨_, h1, fun tp h htp => low_rep S htp hA.1, h2⟩
    case str b => obtain ⟨cs', h1, h2⟩ := plain_sound ht' hk hA.2; exact ⟨_, h1, fun tp h htp => low_rep S htp hA.1, h2⟩
    case lst z es => obtain ⟨cs', h1, h2⟩ := plain_sound ht' hk hA.2; exact ⟨_, h1, fun tp h htp => low_rep S htp hA.1, h2⟩
    case own t e z es => obtain ⟨cs', h1, h2⟩ := plain_sound ht' hk hA.2; exact ⟨_, h1, fun tp h htp => low_own S htp (ht t (by simp [ownTags])) hA.1, h2⟩
    case nil =>
      obtain ⟨cs', h1, h2⟩ := plain_sound ht' hk hA.2
      refine ⟨_, h1, ?_, h2⟩
      have : u = .slice none 0 0 := hA.1
      subst this
      exact fun tp h htp => .nil0
    all_goals exact hk.elim
  | [], _ :: _, _, _, _, hA => hA.elim
  | _ :: _, [], _, _, _, hA => hA.elim
theorem lowP_sound {v : AV} {u : Value} {K : AV → Prop} (ht : ∀ t, t ∈ tagsP s v → t ∈ tags) (hk : lowerP s v K) (hr : RP w0.heap.size G w v u) : ∃ v', K v' ∧ ∀ tp h, (tp = G.tape ∨ tp = none) → (v' = .tape → tp = G.tape) → RP w.heap.size (G0 tp (Cut G tags) h) w v' u := by
  cases v
  case int k n => exact ⟨_, hk, fun tp h htp _ => low_rep S htp hr⟩
  case bool b => exact ⟨_, hk, fun tp h htp _ => low_rep S htp hr⟩
  case str b => exact ⟨_, hk, fun tp h htp _ => low_rep S htp hr⟩
  case lst z es => exact ⟨_, hk, fun tp h htp _ => low_rep S htp hr⟩
  case nil => exact ⟨_, hk, fun tp h htp _ => hr⟩
  case own t e z es => exact ⟨_, hk, fun tp h htp _ => low_own S htp (ht t (by simp [tagsP])) hr⟩
  case ref cs =>
    obtain ⟨b, o, us, rfl, h1, h2, h3, h4⟩ := hr
    exact ⟨_, hk, fun tp h htp _ => ⟨b, o, us, rfl, h1, fun hm => h2 (.inr (.inr (gm0 S htp hm))), h3.mono fun _ _ hr => low_rep S htp hr, h4⟩⟩
  case ept t i off cs =>
    obtain ⟨g, n, c, e, cur, us, k1, rfl, k3, k4, k4', k5, k6⟩ := hr
    refine ⟨_, hk, fun tp h htp _ => ⟨g, _, us.drop off, rfl, (Array.getElem?_eq_some_iff.1 k4).1, fun hm => S.tapeOwn t _ g (gm0 S htp hm) k1 rfl, (k5.mono fun _ _ hr => low_rep S htp hr).drop off, fun j v hv => ?_⟩⟩
    rw [List.getElem?_drop] at hv
    rw [Nat.add_assoc]
    exact k6 _ v hv
  case ptr t off =>
    simp only [lowerP] at hk
    obtain ⟨b, hb, rfl⟩ := hr
    split at hk
    · next cs hcs =>
      obtain ⟨b', e, us, k1, k2, k3⟩ := S.box t cs hcs
      rw [hb] at k1
      injection k1 with k1
      subst k1
      obtain ⟨cs', m1, m2⟩ := plain_sound (tags := tags) S (fun t' h' => ht t' (by simp only [tagsP, hcs]; exact own_drop h')) hk (k3.drop off)
      refine ⟨_, m1, fun tp h htp _ => ⟨b, off, us.drop off, rfl, k2.lt, fun hm => S.tapeBox t b (gm0 S htp hm) hb, m2.mono fun _ _ k => k tp h htp, fun j v hv => ?_⟩⟩
      rw [k2.cell]
      rw [List.getElem?_drop] at hv
      simpa using hv
    · exact hk.elim
  case tape =>
    obtain ⟨p, hp, rfl⟩ := hr
    exact ⟨_, hk, fun tp h htp e => ⟨p, (e rfl).trans hp, rfl⟩⟩
  all_goals exact hk.elim
theorem lowPs_sound : ∀ {vs : List AV} {us : List Value} {K : List AV → Prop}, (∀ t, t ∈ tagsPs s vs → t ∈ tags) → lowerPs s vs K → All2 (RP w0.heap.size G w) vs us → ∃ vs', K vs' ∧ ∀ tp h, (tp = G.tape ∨ tp = none) → (hasTape vs' = true → tp = G.tape) → All2 (RP w.heap.size (G0 tp (Cut G tags) h) w) vs' us
  | [], [], K, _, hk, _ => ⟨[], hk, fun _ _ _ _ => trivial⟩
  | v :: vs, u :: us, K, ht, hk, hA => by
    obtain ⟨v', k1, k2⟩ := lowP_sound S (fun t h' => ht t (by simp [tagsPs, h'])) hk hA.1
    obtain ⟨vs', m1, m2⟩ := lowPs_sound (fun t h' => ht t (by simp [tagsPs, h'])) k1 hA.2
    exact ⟨_, m1, fun tp h htp e => ⟨k2 tp h htp fun e' => e (by rw [e']; rfl), m2 tp h htp fun e' => e (by cases v' <;> first | rfl | exact e')⟩⟩
  | [], _ :: _, _, _, _, hA => hA.elim
  | _ :: _, [], _, _, _, hA => hA.elim
theorem lowV_sound {v : AV} {u : Value} {K : AV → Prop} (ht : ∀ t, t ∈ tagsV s v → t ∈ tags) (hk : lowerV s v K) (hr : RA w0.heap.size G w v u) : ∃ v', K v' ∧ ∀ tp h, (tp = G.tape ∨ tp = none) → (v' = .tape → tp = G.tape) → RA w.heap.size (G0 tp (Cut G tags) h) w v' u := by
  have leaf : (∀ cs, v ≠ .agg cs) → (∀ f cap, v ≠ .fn f cap) → lowerP s v K → RP w0.heap.size G w v u → (∀ t, t ∈ tagsP s v → t ∈ tags) → ∃ v', K v' ∧ ∀ tp h, (tp = G.tape ∨ tp = none) → (v' = .tape → tp = G.tape) → RA w.heap.size (G0 tp (Cut G tags) h) w v' u := fun _ _ k1 k2 k3 => by
    obtain ⟨v', m1, m2⟩ := lowP_sound S k3 k1 k2
    exact ⟨v', m1, fun tp h htp e => (m2 tp h htp e).rg.ra⟩
  cases v
  case agg cs =>
    obtain ⟨us, rfl, hA⟩ := hr
    obtain ⟨cs', m1, m2⟩ := plain_sound (tags := tags) S ht hk hA
    exact ⟨_, m1, fun tp h htp _ => ⟨us, rfl, m2.mono fun _ _ k => RepV.rc (k tp h htp)⟩⟩
  case fn f cap =>
    obtain ⟨us, rfl, hA⟩ := hr
    obtain ⟨cap', m1, m2⟩ := lowPs_sound (tags := tags) S ht hk hA
    split at m1
    · next hf => exact ⟨_, m1, fun tp h htp _ => ⟨us, rfl, m2 tp h htp (by rw [hf]; nofun)⟩⟩
    · exact m1.elim
  case tup => exact hk.elim
  all_goals exact leaf (by simp) (by simp) hk hr ht
theorem lowL_sound : ∀ {vs : List AV} {us : List Value} {K : List AV → Prop}, (∀ t, t ∈ tagsL s vs → t ∈ tags) → lowerL s vs K → All2 (RA w0.heap.size G w) vs us → ∃ vs', K vs' ∧ ∀ tp h, (tp = G.tape ∨ tp = none) → (hasTape vs' = true → tp = G.tape) → All2 (RA w.heap.size (G0 tp (Cut G tags) h) w) vs' us
  | [], [], K, _, hk, _ => ⟨[], hk, fun _ _ _ _ => trivial⟩
  | v :: vs, u :: us, K, ht, hk, hA => by
    obtain ⟨v', k1, k2⟩ := lowV_sound S (fun t h' => ht t (by simp [tagsL, h'])) hk hA.1
    obtain ⟨vs', m1, m2⟩ := lowL_sound (fun t h' => ht t (by simp [tagsL, h'])) k1 hA.2
    exact ⟨_, m1, fun tp h htp e => ⟨k2 tp h htp fun e' => e (by rw [e']; rfl), m2 tp h htp fun e' => e (by cases v' <;> first | rfl | exact e')⟩⟩
  | [], _ :: _, _, _, _, hA => hA.elim
  | _ :: _, [], _, _, _, hA => hA.elim
end lower
theorem wkc_sound {v v' : AV} {u : Value} (h : WkC v v') (hr : RC B G w v u) : RC B G w v' u := by
  rcases h with rfl | ⟨rfl, z, rfl⟩
  · exact hr
  · have : u = .slice none 0 0 := hr
    subst this
    exact RepV.nil z _ _
theorem wk_sound {v v' : AV} {u : Value} (h : Wk v v') (hr : RA B G w v u) : RA B G w v' u := by
  rcases h with (rfl | ⟨rfl, z, rfl⟩) | ⟨cs, cs', rfl, rfl, hA⟩
  · exact hr
  · obtain rfl := hr.nil_inv
    exact RepV.nil z _ _
  · obtain ⟨us, rfl, h⟩ := hr
    refine ⟨us, rfl, All2.of (hA.len.symm.trans h.len) fun j c u hc hu => ?_⟩
    obtain ⟨c0, h0, hw⟩ := hA.get' hc
    obtain ⟨u0, h1, hr⟩ := h.get h0
    rw [hu] at h1
    injection h1 with h1
    subst h1
    exact wkc_sound hw hr
theorem wks_sound : ∀ {vs vs' : List AV} {us : List Value}, All2 Wk vs vs' → All2 (RA B G w) vs us → All2 (RA B G w) vs' us
  | [], [], [], _, _ => trivial
  | v :: vs, v' :: vs', u :: us, h, hA => ⟨wk_sound h.1 hA.1, wks_sound h.2 hA.2⟩
  | [], _ :: _, _, h, _ => h.elim
  | _ :: _, [], _, h, _ => h.elim
  | [], [], _ :: _, _, hA => hA.elim
  | _ :: _, _ :: _, [], _, hA => hA.elim
theorem tape_in {tp : Option Nat} {X : Nat → Prop} {h : Option Addr × Nat × Nat} : ∀ {vs : List AV} {us : List Value}, hasTape vs = true → All2 (RA B (G0 tp X h) w) vs us → ∃ p, tp = some p
  | [], _, ht, _ => by simp [hasTape] at ht
  | v :: vs, us, ht, hA => by
    obtain ⟨u, us', rfl, h1, h2⟩ := hA.cons_inv
    cases v
    case tape => obtain ⟨p, hp, _⟩ := h1; exact ⟨p, hp⟩
    all_goals exact tape_in (vs := vs) ht h2

/-! the result -/
theorem rep_back {tags : List Nat} {tp : Option Nat} {hh : Option Addr × Nat × Nat} {G1 : Gh} (hg : ∀ b, GX G1 b → Cut G tags b) {v : AV} {u : Value} (h : RepV w' (GX (G0 tp (Cut G tags) hh)) v u) : RepV w' (GX G1) v u :=
  h.move (fun _ _ _ => rfl) fun b _ hb => .inr (hg b hb)
theorem rc_back {tags : List Nat} {tp : Option Nat} {hh : Option Addr × Nat × Nat} {G1 : Gh} (hg : ∀ b, GX G1 b → Cut G tags b) {B' : Nat} {v : AV} {u : Value} (h : RC B (G0 tp (Cut G tags) hh) w' v u) : RC B' G1 w' v u := by
  cases v
  case undef => trivial
  case nil => exact h
  case own => exact absurd h.1 (by simp [G0])
  all_goals exact rep_back hg h
theorem data_back {tags : List Nat} {tp : Option Nat} {hh : Option Addr × Nat × Nat} {G1 : Gh} (hg : ∀ b, GX G1 b → Cut G tags b) (htp : ∀ p, tp = some p → G1.tape = some p) {B' : Nat} : ∀ {vs : List AV} {us : List Value}, dataL vs = true → All2 (RG B (G0 tp (Cut G tags) hh) w') vs us → All2 (RG B' G1 w') vs us
  | [], [], _, _ => trivial
  | v :: vs, u :: us, hd, hA => by
    have hd' : dataL vs = true := by cases v <;> first | exact hd | (simp [dataL] at hd)
    refine ⟨?_, data_back hg htp hd' hA.2⟩
    have h1 := hA.1
    cases v
    case agg cs =>
      obtain ⟨us', rfl, h⟩ := h1
      exact ⟨us', rfl, h.mono fun _ _ h => rc_back hg h⟩
    case ref => simp [dataL] at hd
    case fn => simp [dataL] at hd
    case ptr t off => obtain ⟨b, hb, _⟩ := h1; simp [G0] at hb
    case ept t i off cs => obtain ⟨g, n, c, e, cur, us', hb, _⟩ := h1; simp [G0] at hb
    case mp t kvs => obtain ⟨b, es, c, hb, _⟩ := h1; simp [G0] at hb
    case win t lo z es => obtain ⟨g, n, c, e, cur, css, A, c', hb, _⟩ := h1; simp [G0] at hb
    case tape =>
      obtain ⟨p, hp, rfl⟩ := h1
      exact ⟨p, htp p hp, rfl⟩
    case tup => simp only [RG, RP, RC] at h1; cases h1
    all_goals (simp only [RG, RP] at h1; exact (RC.rp (rc_back hg h1)).rg)
  | [], _ :: _, _, hA => hA.elim
  | _ :: _, [], _, hA => hA.elim
end
end Go.Proofs.Ytlminbeepaacjaa
