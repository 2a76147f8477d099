/- A plain interpreter, part 3: new variables, stores, slices of the function's own, calls: the meaning of the state behind each. -/
import Derived.Test.YtlminbeepaacjaaFw2
import Derived.Laws.OwnMore
namespace Go.Proofs.Ytlminbeepaacjaa
set_option linter.unusedVariables false
set_option linter.unusedSimpArgs false
set_option linter.unnecessarySimpa false
set_option linter.unusedSectionVars false
open Go.RowKit

def upd {α : Type} (f : Nat → Option α) (d : Nat) (x : Option α) : Nat → Option α := fun t => if t = d then x else f t
theorem upd_same {α : Type} {f : Nat → Option α} {d : Nat} {x : Option α} : upd f d x d = x := by simp [upd]
theorem upd_ne {α : Type} {f : Nat → Option α} {d t : Nat} {x : Option α} (h : t ≠ d) : upd f d x t = f t := by simp [upd, h]
theorem upd_cases {α : Type} {f : Nat → Option α} {d t : Nat} {x : Option α} {y : α} (h : upd f d x t = some y) : (t = d ∧ x = some y) ∨ (t ≠ d ∧ f t = some y) := by
  by_cases e : t = d
  · subst e; rw [upd_same] at h; exact .inl ⟨rfl, h⟩
  · rw [upd_ne e] at h; exact .inr ⟨e, h⟩
theorem beq_ne {i d : Nat} (e : i ≠ d) : Nat.beq i d = false := by rw [← Bool.not_eq_true, Nat.beq_eq]; exact e
theorem beq_self {d : Nat} : Nat.beq d d = true := Nat.beq_refl d

section
variable {tt : Nat} {w0 : En} {w w' : World} {G : Gh} {s : St} {a : Act} {B : Nat}
theorem Sim.tapeLt (S : Sim tt w0 G s a w) {p : Nat} (h : G.tape = some p) : p < w.heap.size := by
  cases htp : s.tp with
  | true =>
    obtain ⟨p', h1, h2⟩ := S.tape htp
    rw [h] at h1
    injection h1 with h1
    exact h1 ▸ h2.lt
  | false => rw [S.noTape htp] at h; cases h
theorem Sim.gxLt (S : Sim tt w0 G s a w) {b : Nat} (h : GX G b) : b < w.heap.size := by
  rcases h with (⟨t, h⟩ | ⟨t, v, h, h'⟩ | h) | h
  · exact (S.boxLt t b h).2
  · exact (S.ownLt t v b h h').2
  · exact S.tapeLt h
  · exact Nat.lt_of_lt_of_le (S.ext b h) S.chg.size

def St.dropBox (s : St) (d : Nat) : St := { s with box := fun i => bif Nat.beq i d then none else s.box i }
theorem Sim.dropBox (S : Sim tt w0 G s a w) (d : Nat) : Sim tt w0 G (s.dropBox d) a w :=
  { S with
    slot := S.slot
    box := fun t cs h => by
      simp only [St.dropBox] at h
      by_cases e : t = d
      · subst e; rw [beq_self] at h; cases h
      · rw [beq_ne e] at h; exact S.box t cs h
    tape := S.tape
    noTape := S.noTape }
theorem Sim.setBox (S : Sim tt w0 G s a w) {d b e : Nat} {cs : List AV} {us : List Value} (hb : G.box d = some b) (hB : Blk w b e us.toArray) (h : All2 (RC w0.heap.size G w) cs us) : Sim tt w0 G (s.setBox d cs) a w :=
  { S with
    slot := S.slot
    box := fun t cs' h' => by
      simp only [St.setBox] at h'
      by_cases e' : t = d
      · subst e'; rw [beq_self] at h'; injection h' with h'; subst h'; exact ⟨b, e, us, hb, hB, h⟩
      · rw [beq_ne e'] at h'; exact S.box t cs' h'
    tape := S.tape
    noTape := S.noTape }
theorem setBox_drop {f : AV → AV} {d : Nat} {cs : List AV} : ((s.dropBox d).map f).setBox d cs = (s.map f).setBox d cs := by
  simp only [St.setBox, St.map, St.dropBox, St.mk.injEq, true_and, and_true]
  funext i
  by_cases e : i = d
  · subst e; simp
  · simp [beq_ne e]

/-- A new variable. -/
theorem Sim.allocBox (S : Sim tt w0 G s a w) (d e : Nat) {cs : List AV} {us : List Value} (h : All2 (RC w0.heap.size G w) cs us) :
    Sim tt w0 { G with box := upd G.box d (some w.heap.size) } ((s.map (killPtrF d)).setBox d (cs.map (killPtrF d))) a (w.alloc (.cells us.toArray e)) := by
  have hb : ∀ b, b < w.heap.size → (w.alloc (.cells us.toArray e)).heap[b]? = w.heap[b]? := fun b hb => Below.heap_alloc _ _ _ hb
  have H : Shift (fun _ => True) (· ≠ d) G { G with box := upd G.box d (some w.heap.size) } w (w.alloc (.cells us.toArray e)) :=
    ⟨fun b h _ => hb b h, fun b hlt hx => by
      rcases hx with ⟨t, ht⟩ | ⟨t, v, h, h'⟩ | h
      · rcases upd_cases ht with ⟨_, e⟩ | ⟨_, e⟩
        · injection e with e; omega
        · exact .inl ⟨t, e⟩
      · exact .inr (.inl ⟨t, v, h, h'⟩)
      · exact .inr (.inr h), fun b h => h, fun t v h _ => ⟨h, fun b hv => hb b (S.ownLt t v b h hv).2⟩, fun t b h hk => (upd_ne hk).trans h, fun p h => h, fun b h => hb b (S.fz1 b h).1, fun b h => h, rfl, fun _ _ => rfl, rfl⟩
  have hp : ∀ v u, RP w0.heap.size G w v u → RP w0.heap.size { G with box := upd G.box d (some w.heap.size) } (w.alloc (.cells us.toArray e)) (killPtrF d v) u := fun v u h => by
    cases v
    case ptr t off =>
      by_cases e : t = d
      · subst e; simp only [killPtrF, beq_self, cond_true]; trivial
      · simp only [killPtrF, beq_ne e, cond_false]; exact H.rp (v := .ptr t off) e h
    all_goals exact H.rp (by trivial) h
  have hc : ∀ v u, RC w0.heap.size G w v u → RC w0.heap.size { G with box := upd G.box d (some w.heap.size) } (w.alloc (.cells us.toArray e)) (killPtrF d v) u := fun v u h => by
    cases v
    case ptr t off => simp only [RC] at h; cases h
    all_goals exact H.rc (by trivial) h
  have key := (S.dropBox d).shift (f := killPtrF d) H hp hc ?hbox (S.chg.alloc _) (by simp) ?boxLt (fun t v b h h' => ⟨(S.ownLt t v b h h').1, by have := (S.ownLt t v b h h').2; simp; omega⟩) ?boxInj S.ownInj ?boxOwn ?tapeBox S.tapeOwn (S.tapeShift H rfl (fun p h => hb p (S.tapeLt h)) rfl) S.noTape S.fz2 S.fz3 S.tapeNew
  case hbox =>
    intro t b h'
    by_cases e' : t = d
    · subst e'
      exact ⟨_, upd_same, fun hn => absurd (show (s.dropBox t).box t = none by simp [St.dropBox]) hn⟩
    · exact ⟨b, (upd_ne e').trans h', fun _ => ⟨rfl, hb b (S.boxLt t b h').2⟩⟩
  case boxLt =>
    intro t b h
    rcases upd_cases h with ⟨_, e⟩ | ⟨_, e⟩
    · injection e with e; subst e; exact ⟨S.chg.size, by simp⟩
    · have := S.boxLt t b e; exact ⟨this.1, by simp; omega⟩
  case boxInj =>
    intro t t' b h h'
    rcases upd_cases h with ⟨e1, e⟩ | ⟨e1, e⟩ <;> rcases upd_cases h' with ⟨e2, e'⟩ | ⟨e2, e'⟩
    · exact e1.trans e2.symm
    · injection e with e; have := (S.boxLt t' b e').2; omega
    · injection e' with e'; have := (S.boxLt t b e).2; omega
    · exact S.boxInj t t' b e e'
  case boxOwn =>
    intro t t' v b h h' h''
    rcases upd_cases h with ⟨_, e⟩ | ⟨_, e⟩
    · injection e with e; have := (S.ownLt t' v b h' h'').2; omega
    · exact S.boxOwn t t' v b e h' h''
  case tapeBox =>
    intro t b h h'
    rcases upd_cases h' with ⟨_, e⟩ | ⟨_, e⟩
    · injection e with e; have := S.tapeLt h; omega
    · exact S.tapeBox t b h e
  have := key.setBox (d := d) (cs := cs.map (killPtrF d)) (us := us) upd_same (Blk.made w e us.toArray) (All2.map_left.2 (h.mono hc))
  rwa [setBox_drop] at this
theorem map_killPtr {cs : List AV} {us : List Value} {d : Nat} (h : All2 (RC B G w) cs us) : cs.map (killPtrF d) = cs := by
  induction cs generalizing us with
  | nil => rfl
  | cons c cs ih =>
    obtain ⟨u, us, rfl, h1, h2⟩ := h.cons_inv
    rw [List.map_cons, ih h2]
    cases c <;> first | rfl | (simp only [RC] at h1; cases h1)

theorem okT (v : AV) : OkTag (fun _ => True) (fun _ => True) v := by cases v <;> trivial
theorem Sim.unfz (S : Sim tt w0 G s a w) (p : Nat → Prop) : Sim tt w0 { G with fz := fun b => G.fz b ∧ p b } s a w :=
  { S with
    slot := S.slot
    box := S.box
    tape := S.tape
    noTape := S.noTape
    fz1 := fun b h => S.fz1 b h.1
    fz2 := fun t v b h h' hz => S.fz2 t v b h h' hz.1
    fz3 := fun b h hz => S.fz3 b h hz.1 }
/-- A store into a variable. -/
theorem Sim.storeBox (S0 : Sim tt w0 G s a w) {t b e : Nat} {cs' : List AV} {us' : List Value} (hb : G.box t = some b) (hB : Blk w' b e us'.toArray) (hsz : w'.heap.size = w.heap.size) (hne : ∀ b', b' ≠ b → w'.heap[b']? = w.heap[b']?)
    (hchg : Chg (fun b => G.tape = some b) w0 w') (h0 : All2 (RC w0.heap.size G w) cs' us') : Sim tt w0 { G with fz := fun b' => G.fz b' ∧ b' ≠ b } (s.setBox t cs') a w' := by
  have S := S0.unfz (· ≠ b)
  have h : All2 (RC w0.heap.size { G with fz := fun b' => G.fz b' ∧ b' ≠ b } w) cs' us' := h0.mono fun v u h => by cases v <;> exact h
  have hfz : ∀ b', (G.fz b' ∧ b' ≠ b) → w'.heap[b']? = w.heap[b']? := fun b' h => hne b' h.2
  have hx : ∀ b', ¬ GM { G with fz := fun b' => G.fz b' ∧ b' ≠ b } b' → b' ≠ b := fun b' hn e => hn (by subst e; exact .inl ⟨t, hb⟩)
  have hbo : ∀ t' v b', G.own t' = some v → v.ownBlock = some b' → w'.heap[b']? = w.heap[b']? := fun t' v b' h h' => hne b' fun e => S.boxOwn t t' v b hb h (e ▸ h')
  have H : Shift (fun _ => True) (fun _ => True) { G with fz := fun b' => G.fz b' ∧ b' ≠ b } { G with fz := fun b' => G.fz b' ∧ b' ≠ b } w w' := ⟨fun b' _ hn => hne b' (hx b' hn), fun b _ h => h, fun b h => h, fun t' v h _ => ⟨h, fun b' hv => hbo t' v b' h hv⟩, fun t b h _ => h, fun p h => h, hfz, fun b h => h, rfl, fun _ _ => rfl, rfl⟩
  have key := (S.dropBox t).shift (f := id) H (fun v u h => H.rp (okT v) h) (fun v u h => H.rc (okT v) h) ?hbox hchg (by omega) (fun t b h => ⟨(S.boxLt t b h).1, by have := (S.boxLt t b h).2; omega⟩) (fun t v b h h' => ⟨(S.ownLt t v b h h').1, by have := (S.ownLt t v b h h').2; omega⟩)
    S.boxInj S.ownInj S.boxOwn S.tapeBox S.tapeOwn (S.tapeShift H rfl (fun p hp => hne p fun e => S.tapeBox t b (e ▸ hp) hb) rfl) S.noTape S.fz2 S.fz3 S.tapeNew
  case hbox =>
    intro t' b' h'
    by_cases e' : t' = t
    · subst e'
      exact ⟨_, h', fun hn => absurd (show (s.dropBox t').box t' = none by simp [St.dropBox]) hn⟩
    · exact ⟨b', h', fun _ => ⟨rfl, hne b' fun e => e' (S.boxInj t' t b (e ▸ h') hb)⟩⟩
  have := key.setBox (d := t) (cs := cs') (us := us') hb hB (h.mono fun v u h => H.rc (okT v) h)
  rwa [setBox_drop, map_id_st] at this

theorem killF_ok {T : Nat} {v : AV} : killF T v = .undef ∨ (killF T v = v ∧ OkTag (· ≠ T) (fun _ => True) v) := by
  cases v
  case own t e z es =>
    by_cases h : t = T
    · subst h; exact .inl (by simp [killF])
    · exact .inr ⟨by simp [killF, beq_ne h], h⟩
  case ept t i off cs =>
    by_cases h : t = T
    · subst h; exact .inl (by simp [killF])
    · exact .inr ⟨by simp [killF, beq_ne h], h⟩
  case mp t kvs =>
    by_cases h : t = T
    · subst h; exact .inl (by simp [killF])
    · exact .inr ⟨by simp [killF, beq_ne h], h⟩
  case win t lo z es =>
    by_cases h : t = T
    · subst h; exact .inl (by simp [killF])
    · exact .inr ⟨by simp [killF, beq_ne h], h⟩
  all_goals exact .inr ⟨rfl, trivial⟩
/-- A slice of the function's own gets a new value; every other mention of it is dropped. -/
theorem Sim.setOwn (S : Sim tt w0 G s a w) (T : Nat) (v' : Value) (hsz : w.heap.size ≤ w'.heap.size)
    (hne : ∀ b, b < w.heap.size → (∀ v, G.own T = some v → v.ownBlock ≠ some b) → w'.heap[b]? = w.heap[b]?)
    (hv' : ∀ b, v'.ownBlock = some b → (∃ v, G.own T = some v ∧ v.ownBlock = some b) ∨ (w.heap.size ≤ b ∧ b < w'.heap.size))
    (hchg : Chg (fun b => G.tape = some b) w0 w') : Sim tt w0 { G with own := upd G.own T (some v') } (s.map (killF T)) a w' := by
  have H : Shift (· ≠ T) (fun _ => True) G { G with own := upd G.own T (some v') } w w' :=
    ⟨fun b hlt hn => hne b hlt fun v h h' => hn (.inr (.inl ⟨T, v, h, h'⟩)), fun b hlt hx => by
      rcases hx with ⟨t, ht⟩ | ⟨t, v, h, h'⟩ | h
      · exact .inl ⟨t, ht⟩
      · rcases upd_cases h with ⟨_, e⟩ | ⟨_, e⟩
        · injection e with e
          subst e
          rcases hv' b h' with ⟨v, h1, h2⟩ | h1
          · exact .inr (.inl ⟨T, v, h1, h2⟩)
          · omega
        · exact .inr (.inl ⟨t, v, e, h'⟩)
      · exact .inr (.inr h), fun b h => h, fun t v h hk => ⟨(upd_ne hk).trans h, fun b hv => hne b (S.ownLt t v b h hv).2 fun v2 h2 h3 => hk (S.ownInj t T v v2 b h h2 hv h3)⟩, fun t b h _ => h, fun p h => h, fun b h => hne b (S.fz1 b h).1 fun v h1 h2 => S.fz2 T v b h1 h2 h, fun b h => h, rfl, fun _ _ => rfl, rfl⟩
  have hp : ∀ v u, RP w0.heap.size G w v u → RP w0.heap.size { G with own := upd G.own T (some v') } w' (killF T v) u := fun v u h => by
    rcases killF_ok (T := T) (v := v) with e | ⟨e, hk⟩
    · rw [e]; trivial
    · rw [e]; exact H.rp hk h
  have hc : ∀ v u, RC w0.heap.size G w v u → RC w0.heap.size { G with own := upd G.own T (some v') } w' (killF T v) u := fun v u h => by
    rcases killF_ok (T := T) (v := v) with e | ⟨e, hk⟩
    · rw [e]; trivial
    · rw [e]; exact H.rc hk h
  have hbx : ∀ t b, G.box t = some b → w'.heap[b]? = w.heap[b]? := fun t b h => hne b (S.boxLt t b h).2 fun v h1 h2 => S.boxOwn t T v b h h1 h2
  refine S.shift (f := killF T) H hp hc (fun t b h => ⟨b, h, fun _ => ⟨rfl, hbx t b h⟩⟩) hchg hsz (fun t b h => ⟨(S.boxLt t b h).1, by have := (S.boxLt t b h).2; omega⟩) ?ownLt S.boxInj ?ownInj ?boxOwn S.tapeBox ?tapeOwn
    (S.tapeShift H rfl (fun p hp => hne p (S.tapeLt hp) fun v h1 h2 => S.tapeOwn T v p hp h1 h2) rfl) S.noTape ?ownFz S.fz3 S.tapeNew
  case ownLt =>
    intro t v b h h'
    rcases upd_cases h with ⟨_, e⟩ | ⟨_, e⟩
    · injection e with e
      subst e
      rcases hv' b h' with ⟨v, h1, h2⟩ | h1
      · have := S.ownLt T v b h1 h2; omega
      · have := S.chg.size; omega
    · have := S.ownLt t v b e h'; omega
  case ownInj =>
    intro t t' v1 v2 b h h' k k'
    rcases upd_cases h with ⟨e1, e⟩ | ⟨e1, e⟩ <;> rcases upd_cases h' with ⟨e2, e'⟩ | ⟨e2, e'⟩
    · exact e1.trans e2.symm
    · injection e with e
      subst e
      rcases hv' b k with ⟨v, h1, h2⟩ | h1
      · exact e1.trans (S.ownInj T t' v v2 b h1 e' h2 k')
      · have := (S.ownLt t' v2 b e' k').2; omega
    · injection e' with e'
      subst e'
      rcases hv' b k' with ⟨v, h1, h2⟩ | h1
      · exact (S.ownInj t T v1 v b e h1 k h2).trans e2.symm
      · have := (S.ownLt t v1 b e k).2; omega
    · exact S.ownInj t t' v1 v2 b e e' k k'
  case boxOwn =>
    intro t t' v b h h' h''
    rcases upd_cases h' with ⟨_, e⟩ | ⟨_, e⟩
    · injection e with e
      subst e
      rcases hv' b h'' with ⟨v, h1, h2⟩ | h1
      · exact S.boxOwn t T v b h h1 h2
      · have := (S.boxLt t b h).2; omega
    · exact S.boxOwn t t' v b h e h''
  case tapeOwn =>
    intro t v b h h' h''
    rcases upd_cases h' with ⟨_, e⟩ | ⟨_, e⟩
    · injection e with e
      subst e
      rcases hv' b h'' with ⟨v, h1, h2⟩ | h1
      · exact S.tapeOwn T v b h h1 h2
      · have := S.tapeLt h; omega
    · exact S.tapeOwn t v b h e h''
  case ownFz =>
    intro t v b h h' hz
    rcases upd_cases h with ⟨_, e⟩ | ⟨_, e⟩
    · injection e with e
      subst e
      rcases hv' b h' with ⟨v, h1, h2⟩ | h1
      · exact S.fz2 T v b h1 h2 hz
      · have := (S.fz1 b hz).1; omega
    · exact S.fz2 t v b e h' hz
end
end Go.Proofs.Ytlminbeepaacjaa
