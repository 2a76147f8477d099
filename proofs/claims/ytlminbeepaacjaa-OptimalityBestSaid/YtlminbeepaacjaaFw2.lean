/- A plain interpreter, part 2: how the meaning of a state goes along when the memory changes. -/
import Derived.Test.YtlminbeepaacjaaFw1
namespace Go.Proofs.Ytlminbeepaacjaa
set_option linter.unusedVariables false
set_option linter.unusedSimpArgs false
set_option linter.unnecessarySimpa false
set_option linter.unusedSectionVars false
open Go.RowKit

section
variable {B : Nat} {G G' : Gh} {w w' : World} {v : AV} {u : Value}
theorem RC.rp (h : RC B G w v u) : RP B G w v u := by
  cases v <;> first | exact h | (simp only [RC] at h; cases h)
theorem RP.rg (h : RP B G w v u) : RG B G w v u := by
  cases v <;> first | exact h | (simp only [RP, RC] at h; cases h)
theorem RG.ra (h : RG B G w v u) : RA B G w v u := by
  cases v <;> first | exact h | (simp only [RG, RP, RC] at h; cases h)
theorem RepV.rc (h : RepV w (GX G) v u) : RC B G w v u := by cases h <;> first | (simp only [RC]; done) | (simp only [RC]; constructor <;> assumption)
theorem RC.ra (h : RC B G w v u) : RA B G w v u := h.rp.rg.ra

/-- A change of leaves goes through structs and tuples. -/
theorem RG.mapG {f : AV → AV} (hp : ∀ v u, RP B G w v u → RP B G' w' (f v) u) (hc : ∀ v u, RC B G w v u → RC B G' w' (f v) u) (h : RG B G w v u) : RG B G' w' (v.mapG f) u := by
  cases v
  case agg cs =>
    obtain ⟨us, rfl, hA⟩ := h
    exact ⟨us, rfl, All2.map_left.2 (hA.mono hc)⟩
  case fn g cap =>
    obtain ⟨us, rfl, hA⟩ := h
    exact ⟨us, rfl, All2.map_left.2 (hA.mono hp)⟩
  all_goals (simp only [RG] at h; exact (hp _ _ h).rg)
theorem RA.mapT {f : AV → AV} (hp : ∀ v u, RP B G w v u → RP B G' w' (f v) u) (hc : ∀ v u, RC B G w v u → RC B G' w' (f v) u) (h : RA B G w v u) : RA B G' w' (v.mapT f) u := by
  cases v
  case tup vs =>
    obtain ⟨us, rfl, hA⟩ := h
    exact ⟨us, rfl, All2.map_left.2 (hA.mono fun _ _ h => h.mapG hp hc)⟩
  all_goals (simp only [RA] at h; exact (RG.mapG hp hc h).ra)

/-- What is common to the changes: shared blocks stay, kept slices and variables stay. -/
structure Shift (ko kb : Nat → Prop) (G G' : Gh) (w w' : World) : Prop where
  sh : ∀ b, b < w.heap.size → ¬ GM G b → w'.heap[b]? = w.heap[b]?
  gm : ∀ b, b < w.heap.size → GM G' b → GM G b
  ex : ∀ b, G'.ext b → G.ext b
  own : ∀ t v, G.own t = some v → ko t → G'.own t = some v ∧ ∀ b, v.ownBlock = some b → w'.heap[b]? = w.heap[b]?
  box : ∀ t b, G.box t = some b → kb t → G'.box t = some b
  tape : ∀ p, G.tape = some p → G'.tape = some p
  fz : ∀ b, G.fz b → w'.heap[b]? = w.heap[b]?
  fzE : ∀ b, G'.fz b → G.fz b
  fwE : G'.fw = G.fw
  hdr : ∀ p, G.tape = some p → G'.hdr = G.hdr
  exE : G'.ext = G.ext
variable {ko kb : Nat → Prop}
theorem Shift.gx (S : Shift ko kb G G' w w') (b : Nat) (hb : b < w.heap.size) (h : GX G' b) : GX G b := h.elim (fun h => .inl (S.gm b hb h)) fun h => .inr (S.ex b h)
theorem Shift.rep (S : Shift ko kb G G' w w') (h : RepV w (GX G) v u) : RepV w' (GX G') v u := h.move (fun b hb hx => S.sh b hb fun hm => hx (.inl hm)) S.gx
theorem ownsRow_move {e size n : Nat} {xs : List Value} (h : w.ownsRow B e size u n xs) (hb : ∀ b, u.ownBlock = some b → w'.heap[b]? = w.heap[b]?) : w'.ownsRow B e size u n xs := by
  refine ⟨h.1, ?_⟩
  rcases h.2 with h2 | ⟨g, cap, cur, hv, hg, hh, rest⟩
  · exact .inl h2
  · exact .inr ⟨g, cap, cur, hv, hg, (hb g (by rw [hv]; rfl)).trans hh, rest⟩
theorem Shift.ownRep (S : Shift ko kb G G' w w') {e z : Nat} {es : List (List AV)} (hb : ∀ b, u.ownBlock = some b → w'.heap[b]? = w.heap[b]?) (h : OwnRep B (GX G) w e z es u) : OwnRep B (GX G') w' e z es u := by
  obtain ⟨css, h1, h2⟩ := h
  exact ⟨css, ownsRow_move h1 hb, h2.mono fun _ _ h => ⟨h.1, h.2.mono fun _ _ h => S.rep h⟩⟩
def OkTag (ko kb : Nat → Prop) : AV → Prop
  | .own t _ _ _ => ko t
  | .ept t _ _ _ => ko t
  | .mp t _ => ko t
  | .win t _ _ _ => ko t
  | .ptr t _ => kb t
  | _ => True
theorem Shift.rc (S : Shift ko kb G G' w w') (hk : OkTag ko kb v) (h : RC B G w v u) : RC B G' w' v u := by
  cases v
  case undef => trivial
  case nil => exact h
  case own t e z es =>
    obtain ⟨h1, h2⟩ := S.own t u h.1 hk
    exact ⟨h1, S.ownRep h2 h.2⟩
  all_goals exact S.rep h
theorem cell_move {b o : Nat} (e : w'.heap[b]? = w.heap[b]?) : w'.cell? ⟨b, o, none⟩ = w.cell? ⟨b, o, none⟩ := World.cell?_of_block (a := ⟨b, o, none⟩) e
theorem Shift.ref (S : Shift ko kb G G' w w') {cs : List AV} (h : RefRep w (GM G) (GX G) cs u) : RefRep w' (GM G') (GX G') cs u := by
  obtain ⟨b, o, us, rfl, hb, hx, hA, hc⟩ := h
  have e := S.sh b hb hx
  exact ⟨b, o, us, rfl, heap_lt e hb, fun hy => hx (S.gm b hb hy), hA.mono fun _ _ h => S.rep h, fun j v hv => (cell_move e).trans (hc j v hv)⟩
theorem Shift.rp (S : Shift ko kb G G' w w') (hk : OkTag ko kb v) (h : RP B G w v u) : RP B G' w' v u := by
  cases v
  case ptr t off =>
    obtain ⟨b, hb, rfl⟩ := h
    exact ⟨b, S.box t b hb hk, rfl⟩
  case ept t i off cs =>
    obtain ⟨g, n, c, e, cur, us, h1, rfl, h3, h4, h4', h5, h6⟩ := h
    obtain ⟨k1, k2⟩ := S.own t _ h1 hk
    have e' := k2 g rfl
    exact ⟨g, n, c, e, cur, us, k1, rfl, h3, e'.trans h4, h4', h5.mono fun _ _ h => S.rep h, fun j v hv => (cell_move e').trans (h6 j v hv)⟩
  case ref cs => exact S.ref h
  case tape =>
    obtain ⟨p, hp, rfl⟩ := h
    exact ⟨p, S.tape p hp, rfl⟩
  case mp t kvs =>
    obtain ⟨b, es, c, h1, rfl, h3, h4⟩ := h
    obtain ⟨k1, k2⟩ := S.own t _ h1 hk
    exact ⟨b, es, c, k1, rfl, (k2 b rfl).trans h3, h4⟩
  case win t lo z es =>
    obtain ⟨g, n, c, e, cur, css, A, c', h1, h2, h3, h4, h5, h6, h7, h8, h9⟩ := h
    obtain ⟨k1, k2⟩ := S.own t _ h1 hk
    have e' := k2 g rfl
    exact ⟨g, n, c, e, cur, css, A, c', k1, h2, h3, h4, h5, e'.trans h6, h7, h8.mono fun _ _ h => ⟨h.1, h.2.mono fun _ _ h => S.rep h⟩, fun j v hv => (cell_move e').trans (h9 j v hv)⟩
  all_goals exact (RC.rp (S.rc hk h))
end

section
variable {tt : Nat} {w0 : En} {w w' : World} {G G' : Gh} {s : St} {a : Act}
theorem getD_put {tmps : Array Value} {d i : Nat} {u : Value} (hd : d < tmps.size) : (tmps.setIfInBounds d u).getD i undef = if i = d then u else tmps.getD i undef := by
  simp only [Array.getD_eq_getD_getElem?, Array.getElem?_setIfInBounds]
  by_cases h : d = i
  · subst h; simp [hd]
  · have : ¬ i = d := fun e => h e.symm
    simp [h, this]
theorem Sim.put (S : Sim tt w0 G s a w) {d : Nat} {v : AV} {u : Value} (hd : d < a.tmps.size) (h : RA w0.heap.size G w v u) : Sim tt w0 G (s.put d v) (a.put (some d) u) w :=
  { S with
    slot := fun i => by
      show RA _ _ _ (bif Nat.beq i d then v else s.slot i) ((a.tmps.setIfInBounds d u).getD i undef)
      rw [getD_put hd]
      by_cases e : i = d
      · subst e; simpa using h
      · have : Nat.beq i d = false := by rw [← Bool.not_eq_true, Nat.beq_eq]; exact e
        simp only [this, e, if_false, cond_false]
        exact S.slot i
    box := S.box
    tape := S.tape
    noTape := S.noTape }
/-- A number known of a Bool slot. -/
theorem Sim.know (S : Sim tt w0 G s a w) {d : Nat} {v : AV} (h : RA w0.heap.size G w v (a.tmps.getD d undef)) : Sim tt w0 G (s.put d v) a w :=
  { S with
    slot := fun i => by
      show RA _ _ _ (bif Nat.beq i d then v else s.slot i) (a.tmps.getD i undef)
      by_cases e : i = d
      · subst e; simpa using h
      · have : Nat.beq i d = false := by rw [← Bool.not_eq_true, Nat.beq_eq]; exact e
        simp only [this, cond_false]
        exact S.slot i
    box := S.box
    tape := S.tape
    noTape := S.noTape }
theorem TapeAt.move {X Y : Nat → Prop} {A : Option Addr} {n c p : Nat} (h : TapeAt tt X A n c w p) (hp : w'.heap[p]? = w.heap[p]?) (hb : ∀ b, b < w.heap.size → ¬ X b → w'.heap[b]? = w.heap[b]?) (hY : ∀ b, b < w.heap.size → Y b → X b) : TapeAt tt Y A n c w' p := by
  obtain ⟨xs, k, h1, h2, h3⟩ := h
  exact ⟨xs, k, hp.trans h1, h2.move _ hb hY, h3⟩
theorem TapeAt.lt {X : Nat → Prop} {A : Option Addr} {n c p : Nat} (h : TapeAt tt X A n c w p) : p < w.heap.size := by
  obtain ⟨xs, k, h1, -⟩ := h
  exact h1.lt

/-- The whole state behind a change f of its leaves. -/
theorem Sim.shift {ko kb : Nat → Prop} {f : AV → AV} (S : Sim tt w0 G s a w) (H : Shift ko kb G G' w w')
    (hp : ∀ v u, RP w0.heap.size G w v u → RP w0.heap.size G' w' (f v) u) (hc : ∀ v u, RC w0.heap.size G w v u → RC w0.heap.size G' w' (f v) u)
    (hbox : ∀ t b, G.box t = some b → ∃ b', G'.box t = some b' ∧ (s.box t ≠ none → b' = b ∧ w'.heap[b]? = w.heap[b]?))
    (hchg : Chg (fun b => G'.tape = some b) w0 w') (hsz : w.heap.size ≤ w'.heap.size)
    (boxLt : ∀ t b, G'.box t = some b → w0.heap.size ≤ b ∧ b < w'.heap.size)
    (ownLt : ∀ t v b, G'.own t = some v → v.ownBlock = some b → w0.heap.size ≤ b ∧ b < w'.heap.size)
    (boxInj : ∀ t t' b, G'.box t = some b → G'.box t' = some b → t = t')
    (ownInj : ∀ t t' v v' b, G'.own t = some v → G'.own t' = some v' → v.ownBlock = some b → v'.ownBlock = some b → t = t')
    (boxOwn : ∀ t t' v b, G'.box t = some b → G'.own t' = some v → v.ownBlock = some b → False)
    (tapeBox : ∀ t b, G'.tape = some b → G'.box t = some b → False)
    (tapeOwn : ∀ t v b, G'.tape = some b → G'.own t = some v → v.ownBlock = some b → False)
    (htp : s.tp = true → ∃ p, G'.tape = some p ∧ TapeAt tt (GM G') G'.hdr.1 G'.hdr.2.1 G'.hdr.2.2 w' p) (htn : s.tp = false → G'.tape = none)
    (ownFz : ∀ t v b, G'.own t = some v → v.ownBlock = some b → ¬ G.fz b) (tapeFz : ∀ b, G'.tape = some b → ¬ G.fz b) (tapeNew : ∀ b, G'.tape = some b → b < w0.heap.size → w0.tp = some b) : Sim tt w0 G' (s.map f) a w' :=
  { slot := fun i => (S.slot i).mapT hp hc
    box := fun t cs h => by
      simp only [St.map, Option.map_eq_some_iff] at h
      obtain ⟨cs', h1, rfl⟩ := h
      obtain ⟨b, e, us, h2, h3, h4⟩ := S.box t cs' h1
      obtain ⟨b', h5, h6⟩ := hbox t b h2
      obtain ⟨rfl, h7⟩ := h6 (by simp [h1])
      exact ⟨b', e, us, h5, h7.trans h3, All2.map_left.2 (h4.mono hc)⟩
    defers := S.defers
    chg := hchg
    boxLt := boxLt
    ownLt := ownLt
    boxInj := boxInj
    ownInj := ownInj
    boxOwn := boxOwn
    tapeBox := tapeBox
    tapeOwn := tapeOwn
    tape := htp
    noTape := htn
    ext := fun b h => S.ext b (H.ex b h)
    fz1 := fun b h => ⟨Nat.lt_of_lt_of_le (S.fz1 b (H.fzE b h)).1 hsz, by rw [H.fwE, ← (S.fz1 b (H.fzE b h)).2]; exact H.fz b (H.fzE b h)⟩
    fz2 := fun t v b h h' hz => ownFz t v b h h' (H.fzE b hz)
    fz3 := fun b h hz => tapeFz b h (H.fzE b hz)
    ext0 := H.exE.trans S.ext0
    tape0 := fun p h => ⟨H.tape p (S.tape0 p h).1, (H.hdr p (S.tape0 p h).1).trans (S.tape0 p h).2⟩
    tapeNew := tapeNew }
theorem Sim.tapeShift {ko kb : Nat → Prop} (S : Sim tt w0 G s a w) (H : Shift ko kb G G' w w') (htape : G'.tape = G.tape) (htp : ∀ p, G.tape = some p → w'.heap[p]? = w.heap[p]?) (hh : G'.hdr = G.hdr) (h : s.tp = true) : ∃ p, G'.tape = some p ∧ TapeAt tt (GM G') G'.hdr.1 G'.hdr.2.1 G'.hdr.2.2 w' p := by
  obtain ⟨p, h1, h2⟩ := S.tape h
  rw [hh]
  exact ⟨p, htape.trans h1, h2.move (htp p h1) H.sh H.gm⟩

theorem map_id_st : s.map id = s := by
  have hg : ∀ v : AV, v.mapG id = v := fun v => by cases v <;> simp [AV.mapG]
  have ht : ∀ v : AV, v.mapT id = v := fun v => by
    cases v
    case tup vs =>
      simp only [AV.mapT]
      congr 1
      conv => rhs; rw [← List.map_id vs]
      exact List.map_congr_left fun v _ => hg v
    all_goals simp [AV.mapT]
  cases s with
  | mk slot box tp =>
    simp only [St.map, St.mk.injEq, and_true]
    exact ⟨funext fun i => ht _, funext fun t => by cases box t <;> simp⟩

/-- The world changes outside the ghosts only. -/
theorem Sim.world (S : Sim tt w0 G s a w) (hsz : w.heap.size ≤ w'.heap.size) (hb : ∀ b, b < w.heap.size → w'.heap[b]? = w.heap[b]?) (hchg : Chg (fun b => G.tape = some b) w0 w') : Sim tt w0 G s a w' := by
  have H : Shift (fun _ => True) (fun _ => True) G G w w' := ⟨fun b h _ => hb b h, fun b _ h => h, fun b h => h, fun t v h _ => ⟨h, fun b hv => hb b (S.ownLt t v b h hv).2⟩, fun t b h _ => h, fun p h => h, fun b h => hb b (S.fz1 b h).1, fun b h => h, rfl, fun _ _ => rfl, rfl⟩
  have ok : ∀ v, OkTag (fun _ => True) (fun _ => True) v := fun v => by cases v <;> trivial
  have := S.shift (f := id) H (fun v u h => H.rp (ok v) h) (fun v u h => H.rc (ok v) h) (fun t b h => ⟨b, h, fun _ => ⟨rfl, hb b (S.boxLt t b h).2⟩⟩) hchg hsz
    (fun t b h => ⟨(S.boxLt t b h).1, Nat.lt_of_lt_of_le (S.boxLt t b h).2 hsz⟩) (fun t v b h h' => ⟨(S.ownLt t v b h h').1, Nat.lt_of_lt_of_le (S.ownLt t v b h h').2 hsz⟩) S.boxInj S.ownInj S.boxOwn S.tapeBox S.tapeOwn
    (S.tapeShift H rfl (fun p h => by
      cases htp : s.tp with
      | true =>
        obtain ⟨p', h1, h2⟩ := S.tape htp
        rw [h] at h1
        injection h1 with h1
        subst h1
        exact hb p h2.lt
      | false => rw [S.noTape htp] at h; cases h) rfl) S.noTape S.fz2 S.fz3 S.tapeNew
  rwa [map_id_st] at this
theorem Sim.drew (S : Sim tt w0 G s a w) {n : Nat} : Sim tt w0 G s a { w with drawn := n } :=
  S.world (Nat.le_refl _) (fun _ _ => rfl) ⟨S.chg.os, S.chg.tape, S.chg.output, S.chg.size, S.chg.block⟩
end
end Go.Proofs.Ytlminbeepaacjaa
