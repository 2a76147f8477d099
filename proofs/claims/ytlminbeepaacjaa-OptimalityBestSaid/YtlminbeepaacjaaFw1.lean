/- A plain interpreter over Go's data, part 1: abstract values, states, and what they mean in memory. No program in sight. -/
import Derived.Test.YtlminbeepaacjaaBase
namespace Go.Proofs.Ytlminbeepaacjaa
set_option linter.unusedVariables false
set_option linter.unusedSimpArgs false
set_option linter.unnecessarySimpa false
set_option linter.unusedSectionVars false
open Go.RowKit

/-- Abstract values: plain data; 'own': a slice of the function's own (tag, element type, cells of an element); 'ptr': into a variable of its own; 'ept': into an element of a slice of its own; 'ref': into memory that only is read. -/
inductive AV where
  | undef
  | nil
  | int (k : IntKind) (n : Int)
  | bool (b : Bool)
  | str (s : ByteArray)
  | lst (z : Nat) (es : List (List AV))
  | own (t e z : Nat) (es : List (List AV))
  | agg (cs : List AV)
  | tup (vs : List AV)
  | ptr (t off : Nat)
  | ept (t i off : Nat) (cs : List AV)
  | ref (cs : List AV)
  | fn (f : Nat) (cap : List AV)
  | tape
  | mp (t : Nat) (kvs : List (Int × Bool))
  | win (t lo z : Nat) (es : List (List AV))
instance : Inhabited AV := ⟨.undef⟩

/-- Two lists, element by element. -/
def All2 {α β : Type} (R : α → β → Prop) : List α → List β → Prop
  | [], [] => True
  | a :: as, b :: bs => R a b ∧ All2 R as bs
  | _, _ => False
section
variable {α β γ : Type} {R S : α → β → Prop}
theorem All2.len : ∀ {as : List α} {bs : List β}, All2 R as bs → as.length = bs.length
  | [], [], _ => rfl
  | _ :: _, _ :: _, h => by simp [All2.len h.2]
  | [], _ :: _, h => h.elim
  | _ :: _, [], h => h.elim
theorem All2.mono (hm : ∀ a b, R a b → S a b) : ∀ {as : List α} {bs : List β}, All2 R as bs → All2 S as bs
  | [], [], _ => trivial
  | _ :: _, _ :: _, h => ⟨hm _ _ h.1, All2.mono hm h.2⟩
  | [], _ :: _, h => h.elim
  | _ :: _, [], h => h.elim
theorem All2.get : ∀ {as : List α} {bs : List β}, All2 R as bs → ∀ {j : Nat} {a : α}, as[j]? = some a → ∃ b, bs[j]? = some b ∧ R a b
  | [], [], _, _, _, h => by simp at h
  | a :: as, b :: bs, h, 0, x, hx => ⟨b, rfl, by simp at hx; exact hx ▸ h.1⟩
  | a :: as, b :: bs, h, j + 1, x, hx => by simpa using All2.get h.2 (by simpa using hx)
  | [], _ :: _, h, _, _, _ => h.elim
  | _ :: _, [], h, _, _, _ => h.elim
theorem All2.get' : ∀ {as : List α} {bs : List β}, All2 R as bs → ∀ {j : Nat} {b : β}, bs[j]? = some b → ∃ a, as[j]? = some a ∧ R a b
  | [], [], _, _, _, h => by simp at h
  | a :: as, b :: bs, h, 0, x, hx => ⟨a, rfl, by simp at hx; exact hx ▸ h.1⟩
  | a :: as, b :: bs, h, j + 1, x, hx => by simpa using All2.get' h.2 (by simpa using hx)
  | [], _ :: _, h, _, _, _ => h.elim
  | _ :: _, [], h, _, _, _ => h.elim
theorem All2.of : ∀ {as : List α} {bs : List β}, as.length = bs.length → (∀ (j : Nat) (a : α) (b : β), as[j]? = some a → bs[j]? = some b → R a b) → All2 R as bs
  | [], [], _, _ => trivial
  | a :: as, b :: bs, hl, h => ⟨h 0 a b rfl rfl, All2.of (by simpa using hl) fun j x y hx hy => h (j + 1) x y (by simpa using hx) (by simpa using hy)⟩
  | [], _ :: _, hl, _ => by simp at hl
  | _ :: _, [], hl, _ => by simp at hl
theorem All2.append {as as' : List α} {bs bs' : List β} (h : All2 R as bs) (h' : All2 R as' bs') : All2 R (as ++ as') (bs ++ bs') := by
  induction as generalizing bs with
  | nil => cases bs with
    | nil => exact h'
    | cons => exact h.elim
  | cons a as ih => cases bs with
    | nil => exact h.elim
    | cons b bs => exact ⟨h.1, ih h.2⟩
theorem All2.drop {as : List α} {bs : List β} (h : All2 R as bs) (n : Nat) : All2 R (as.drop n) (bs.drop n) :=
  All2.of (by simp [h.len]) fun j a b ha hb => by
    rw [List.getElem?_drop] at ha hb
    obtain ⟨b', hb', hr⟩ := h.get ha
    rw [hb] at hb'
    injection hb' with e
    exact e ▸ hr
theorem All2.take {as : List α} {bs : List β} (h : All2 R as bs) (n : Nat) : All2 R (as.take n) (bs.take n) :=
  All2.of (by simp [h.len]) fun j a b ha hb => by
    rw [List.getElem?_take] at ha hb
    split at ha
    · obtain ⟨b', hb', hr⟩ := h.get ha
      simp only [*, if_true] at hb
      injection hb with e
      exact e ▸ hr
    · cases ha
theorem All2.set {as : List α} {bs : List β} (h : All2 R as bs) (n : Nat) {a : α} {b : β} (hr : R a b) : All2 R (as.set n a) (bs.set n b) :=
  All2.of (by simp [h.len]) fun j x y hx hy => by
    rw [List.getElem?_set] at hx hy
    split at hx
    · next e =>
      simp only [e, if_true] at hy
      split at hx
      · split at hy
        · injection hx with hx; injection hy with hy; exact hx ▸ hy ▸ hr
        · cases hy
      · cases hx
    · next e =>
      simp only [e, if_false] at hy
      obtain ⟨y', hy', hr'⟩ := h.get hx
      rw [hy] at hy'
      injection hy' with e
      exact e ▸ hr'
theorem All2.map_left {f : γ → α} : ∀ {cs : List γ} {bs : List β}, All2 R (cs.map f) bs ↔ All2 (fun c b => R (f c) b) cs bs
  | [], [] => Iff.rfl
  | c :: cs, b :: bs => and_congr Iff.rfl All2.map_left
  | [], _ :: _ => Iff.rfl
  | _ :: _, [] => Iff.rfl
theorem All2.cons_inv {a : α} {as : List α} {bs : List β} (h : All2 R (a :: as) bs) : ∃ b bs', bs = b :: bs' ∧ R a b ∧ All2 R as bs' := by
  cases bs with
  | nil => exact h.elim
  | cons b bs => exact ⟨b, bs, rfl, h.1, h.2⟩
theorem All2.nil_inv {bs : List β} (h : All2 R ([] : List α) bs) : bs = [] := by
  cases bs with
  | nil => rfl
  | cons => exact h.elim
end

def at2 (es : List (List AV)) (i j : Nat) : Option AV := (es[i]?).bind (·[j]?)

/-- How a plain datum lies in memory; blocks of X are not read. -/
inductive RepV (w : World) (X : Nat → Prop) : AV → Value → Prop
  | int (k : IntKind) (n : Int) : RepV w X (.int k n) (.int k n)
  | bool (b : Bool) : RepV w X (.bool b) (.bool b)
  | str (s : ByteArray) : RepV w X (.str s) (.string s)
  | nil (z : Nat) (A : Option Addr) (c : Nat) : RepV w X (.lst z []) (.slice A 0 c)
  | nil0 : RepV w X .nil (.slice none 0 0)
  | lst {z : Nat} {es : List (List AV)} {b off c : Nat} (f : Nat → Nat → Value) (hne : es ≠ []) (hc : es.length ≤ c) (hb : b < w.heap.size) (hx : ¬ X b) (hz : ∀ cs ∈ es, cs.length = z)
      (hcell : ∀ i j d, at2 es i j = some d → w.cell? ⟨b, off + i * z + j, none⟩ = some (f i j)) (hrep : ∀ i j d, at2 es i j = some d → RepV w X d (f i j)) : RepV w X (.lst z es) (.slice (some ⟨b, off, none⟩) es.length c)

theorem heap_lt {w w' : World} {b : Nat} (e : w'.heap[b]? = w.heap[b]?) (hlt : b < w.heap.size) : b < w'.heap.size := by
  rcases Nat.lt_or_ge b w'.heap.size with h | h
  · exact h
  · rw [Array.getElem?_eq_none h, Array.getElem?_eq_getElem hlt] at e; cases e
theorem RepV.move {w w' : World} {X Y : Nat → Prop} {v : AV} {u : Value} (h : RepV w X v u) (hb : ∀ b, b < w.heap.size → ¬ X b → w'.heap[b]? = w.heap[b]?) (hY : ∀ b, b < w.heap.size → Y b → X b) : RepV w' Y v u := by
  induction h with
  | int k n => exact .int k n
  | bool b => exact .bool b
  | str s => exact .str s
  | nil z A c => exact .nil z A c
  | nil0 => exact .nil0
  | lst f hne hc hlt hx hz hcell hrep ih =>
    have e := hb _ hlt hx
    exact .lst f hne hc (heap_lt e hlt) (fun hy => hx (hY _ hlt hy)) hz (fun i j d hd => (World.cell?_of_block (a := ⟨_, _, none⟩) e).trans (hcell i j d hd)) ih
theorem RepV.one {w : World} {X : Nat → Prop} {v : AV} {u : Value} (h : RepV w X v u) : u.oneCell' = true := by cases h <;> rfl

/-- The ghosts of a run: where the variables lie, which slices are its own, where the tape is. -/
structure Gh where
  box : Nat → Option Nat
  own : Nat → Option Value
  tape : Option Nat
  ext : Nat → Prop
  hdr : Option Addr × Nat × Nat
  fz : Nat → Prop
  fw : World
/-- The blocks that the run may write. -/
def GM (G : Gh) : Nat → Prop := fun b => (∃ t, G.box t = some b) ∨ (∃ t v, G.own t = some v ∧ Value.ownBlock v = some b) ∨ G.tape = some b
/-- The blocks in which no datum lies: those, and what the caller keeps for itself. -/
def GX (G : Gh) : Nat → Prop := fun b => GM G b ∨ G.ext b

/-- A slice of the function's own, and its elements. -/
def OwnRep (B : Nat) (X : Nat → Prop) (w : World) (e z : Nat) (es : List (List AV)) (u : Value) : Prop :=
  ∃ css : List (List Value), w.ownsRow B e z u es.length css.flatten ∧ All2 (fun ds cs => ds.length = z ∧ All2 (RepV w X) ds cs) es css

/-- A cell. -/
def RC (B : Nat) (G : Gh) (w : World) : AV → Value → Prop
  | .undef, _ => True
  | .nil, u => u = .slice none 0 0
  | .own t e z es, u => G.own t = some u ∧ OwnRep B (GX G) w e z es u
  | v, u => RepV w (GX G) v u
def RefRep (w : World) (M X : Nat → Prop) (cs : List AV) (u : Value) : Prop :=
  ∃ b o us, u = .pointer (some ⟨b, o, none⟩) ∧ b < w.heap.size ∧ ¬ M b ∧ All2 (RepV w X) cs us ∧ ∀ j v, us[j]? = some v → w.cell? ⟨b, o + j, none⟩ = some v
def EptRep (G : Gh) (w : World) (t i off : Nat) (cs : List AV) (u : Value) : Prop :=
  ∃ g n c e cur us, G.own t = some (.slice (some ⟨g, 0, none⟩) n c) ∧ u = .pointer (some ⟨g, i * cs.length + off, none⟩) ∧ i < n ∧ w.heap[g]? = some (.cells cur e (0, 0)) ∧ n * cs.length ≤ cur.size ∧
    All2 (RepV w (GX G)) cs us ∧ ∀ j v, us[j]? = some v → w.cell? ⟨g, i * cs.length + j, none⟩ = some v
/-- A map of the function's own, from numbers to Bools; the ghost keeps its block as that of an empty slice. -/
def MpRep (G : Gh) (w : World) (t : Nat) (kvs : List (Int × Bool)) (u : Value) : Prop :=
  ∃ b es c, G.own t = some (.slice (some ⟨b, 0, none⟩) 0 0) ∧ u = .map (some b) ∧ w.heap[b]? = some (.map es c) ∧ es.toList.map (fun e => (e.key, e.val)) = kvs.map fun p => (Value.int .i64 p.1, Value.bool p.2)
/-- A part of a slice of the function's own, from element lo on. -/
def WinRep (G : Gh) (w : World) (t lo z : Nat) (es : List (List AV)) (u : Value) : Prop :=
  ∃ g n c e cur css A c', G.own t = some (.slice (some ⟨g, 0, none⟩) n c) ∧ lo + es.length ≤ n ∧ u = .slice A es.length c' ∧ (es ≠ [] → A = some ⟨g, lo * z, none⟩) ∧ es.length ≤ c' ∧ w.heap[g]? = some (.cells cur e (0, 0)) ∧ n * z ≤ cur.size ∧
    All2 (fun ds cs => ds.length = z ∧ All2 (RepV w (GX G)) ds cs) es css ∧ ∀ j v, css.flatten[j]? = some v → w.cell? ⟨g, lo * z + j, none⟩ = some v
/-- A cell or a pointer. -/
def RP (B : Nat) (G : Gh) (w : World) : AV → Value → Prop
  | .ptr t off, u => ∃ b, G.box t = some b ∧ u = .pointer (some ⟨b, off, none⟩)
  | .ept t i off cs, u => EptRep G w t i off cs u
  | .ref cs, u => RefRep w (GM G) (GX G) cs u
  | .tape, u => ∃ p, G.tape = some p ∧ u = .pointer (some ⟨p, 0, none⟩)
  | .mp t kvs, u => MpRep G w t kvs u
  | .win t lo z es, u => WinRep G w t lo z es u
  | v, u => RC B G w v u
/-- Or a struct, or a function. -/
def RG (B : Nat) (G : Gh) (w : World) : AV → Value → Prop
  | .agg cs, u => ∃ us : List Value, u = .agg us.toArray ∧ All2 (RC B G w) cs us
  | .fn f cap, u => ∃ us : List Value, u = .func (.func f) #[] us.toArray ∧ All2 (RP B G w) cap us
  | v, u => RP B G w v u
/-- Or a tuple: what a slot holds. -/
def RA (B : Nat) (G : Gh) (w : World) : AV → Value → Prop
  | .tup vs, u => ∃ us : List Value, u = .tuple us.toArray ∧ All2 (RG B G w) vs us
  | v, u => RG B G w v u

/-- Slots, variables; whether there is a tape. -/
structure St where
  slot : Nat → AV
  box : Nat → Option (List AV)
  tp : Bool
def St.put (s : St) (d : Nat) (v : AV) : St := { s with slot := fun i => bif Nat.beq i d then v else s.slot i }
def St.setBox (s : St) (d : Nat) (cs : List AV) : St := { s with box := fun i => bif Nat.beq i d then some cs else s.box i }
/-- A change of what bears tags, everywhere. -/
def AV.mapG (f : AV → AV) : AV → AV
  | .agg cs => .agg (cs.map f)
  | .fn g cap => .fn g (cap.map f)
  | .tup vs => f (.tup vs)
  | .undef => f .undef
  | .nil => f .nil
  | .int k n => f (.int k n)
  | .bool b => f (.bool b)
  | .str s => f (.str s)
  | .lst z es => f (.lst z es)
  | .own t e z es => f (.own t e z es)
  | .ptr t off => f (.ptr t off)
  | .ept t i off cs => f (.ept t i off cs)
  | .ref cs => f (.ref cs)
  | .tape => f .tape
  | .mp t kvs => f (.mp t kvs)
  | .win t lo z es => f (.win t lo z es)
def AV.mapT (f : AV → AV) : AV → AV
  | .tup vs => .tup (vs.map (AV.mapG f))
  | .agg cs => .agg (cs.map f)
  | .fn g cap => .fn g (cap.map f)
  | .undef => f .undef
  | .nil => f .nil
  | .int k n => f (.int k n)
  | .bool b => f (.bool b)
  | .str s => f (.str s)
  | .lst z es => f (.lst z es)
  | .own t e z es => f (.own t e z es)
  | .ptr t off => f (.ptr t off)
  | .ept t i off cs => f (.ept t i off cs)
  | .ref cs => f (.ref cs)
  | .tape => f .tape
  | .mp t kvs => f (.mp t kvs)
  | .win t lo z es => f (.win t lo z es)
def St.map (f : AV → AV) (s : St) : St := { s with slot := fun i => (s.slot i).mapT f, box := fun t => (s.box t).map (·.map f) }
def killF (t : Nat) : AV → AV
  | .own t' e z es => bif Nat.beq t' t then .undef else .own t' e z es
  | .ept t' i off cs => bif Nat.beq t' t then .undef else .ept t' i off cs
  | .mp t' kvs => bif Nat.beq t' t then .undef else .mp t' kvs
  | .win t' lo z es => bif Nat.beq t' t then .undef else .win t' lo z es
  | .undef => .undef
  | .nil => .nil
  | .int k n => .int k n
  | .bool b => .bool b
  | .str s => .str s
  | .lst z es => .lst z es
  | .agg cs => .agg cs
  | .tup vs => .tup vs
  | .ptr t' off => .ptr t' off
  | .ref cs => .ref cs
  | .fn g cap => .fn g cap
  | .tape => .tape
def eraseF (t : Nat) : AV → AV
  | .own t' e z es => bif Nat.beq t' t then .lst z es else .own t' e z es
  | .ept t' i off cs => bif Nat.beq t' t then .ref (cs.drop off) else .ept t' i off cs
  | .mp t' kvs => bif Nat.beq t' t then .undef else .mp t' kvs
  | .win t' lo z es => bif Nat.beq t' t then .lst z es else .win t' lo z es
  | .undef => .undef
  | .nil => .nil
  | .int k n => .int k n
  | .bool b => .bool b
  | .str s => .str s
  | .lst z es => .lst z es
  | .agg cs => .agg cs
  | .tup vs => .tup vs
  | .ptr t' off => .ptr t' off
  | .ref cs => .ref cs
  | .fn g cap => .fn g cap
  | .tape => .tape
def killPtrF (t : Nat) : AV → AV
  | .ptr t' off => bif Nat.beq t' t then .undef else .ptr t' off
  | .undef => .undef
  | .nil => .nil
  | .int k n => .int k n
  | .bool b => .bool b
  | .str s => .str s
  | .lst z es => .lst z es
  | .own t' e z es => .own t' e z es
  | .agg cs => .agg cs
  | .tup vs => .tup vs
  | .ept t' i off cs => .ept t' i off cs
  | .ref cs => .ref cs
  | .fn g cap => .fn g cap
  | .tape => .tape
  | .mp t' kvs => .mp t' kvs
  | .win t' lo z es => .win t' lo z es
def storeF (t z i off : Nat) (x : AV) : AV → AV
  | .own t' e z' es => bif Nat.beq t' t then (bif Nat.beq z' z then .own t' e z' (es.modify i (·.set off x)) else .undef) else .own t' e z' es
  | .ept t' i' off' cs => bif Nat.beq t' t then (bif Nat.beq cs.length z then (bif Nat.beq i' i then .ept t' i' off' (cs.set off x) else .ept t' i' off' cs) else .undef) else .ept t' i' off' cs
  | .mp t' kvs => bif Nat.beq t' t then .undef else .mp t' kvs
  | .win t' lo z es => bif Nat.beq t' t then .undef else .win t' lo z es
  | .undef => .undef
  | .nil => .nil
  | .int k n => .int k n
  | .bool b => .bool b
  | .str s => .str s
  | .lst z es => .lst z es
  | .agg cs => .agg cs
  | .tup vs => .tup vs
  | .ptr t' off => .ptr t' off
  | .ref cs => .ref cs
  | .fn g cap => .fn g cap
  | .tape => .tape
/-- A map gets new entries, everywhere. -/
def mapF (t : Nat) (kvs : List (Int × Bool)) : AV → AV
  | .mp t' kvs' => bif Nat.beq t' t then .mp t' kvs else .mp t' kvs'
  | .own t' e z es => bif Nat.beq t' t then .undef else .own t' e z es
  | .ept t' i off cs => bif Nat.beq t' t then .undef else .ept t' i off cs
  | .win t' lo z es => bif Nat.beq t' t then .undef else .win t' lo z es
  | .undef => .undef
  | .nil => .nil
  | .int k n => .int k n
  | .bool b => .bool b
  | .str s => .str s
  | .lst z es => .lst z es
  | .agg cs => .agg cs
  | .tup vs => .tup vs
  | .ptr t' off => .ptr t' off
  | .ref cs => .ref cs
  | .fn g cap => .fn g cap
  | .tape => .tape

def spl {α : Type} (L : List α) (off : Nat) (cs : List α) : List α := L.take off ++ (cs ++ L.drop (off + cs.length))
/-- Elements are laid over a part of a slice of the function's own. -/
def copyF (t z lo : Nat) (src : List (List AV)) : AV → AV
  | .own t' e z' es => bif Nat.beq t' t then (bif Nat.beq z' z then .own t' e z' (spl es lo src) else .undef) else .own t' e z' es
  | .ept t' i off cs => bif Nat.beq t' t then .undef else .ept t' i off cs
  | .mp t' kvs => bif Nat.beq t' t then .undef else .mp t' kvs
  | .win t' l z es => bif Nat.beq t' t then .undef else .win t' l z es
  | .undef => .undef
  | .nil => .nil
  | .int k n => .int k n
  | .bool b => .bool b
  | .str s => .str s
  | .lst z es => .lst z es
  | .agg cs => .agg cs
  | .tup vs => .tup vs
  | .ptr t' off => .ptr t' off
  | .ref cs => .ref cs
  | .fn g cap => .fn g cap
  | .tape => .tape

/-- The numbers of the tape are in a list that is only read. -/
def TapeAt (tt : Nat) (X : Nat → Prop) (A : Option Addr) (n c : Nat) (w : World) (p : Nat) : Prop := ∃ xs k, Blk w p tt #[.slice A n c, .int .i64 (k : Nat)] ∧ Ints w X A n c xs ∧ k ≤ n ∧ n ≤ 600

/-- The world at a function's entry, and what its caller keeps for itself. -/
structure En extends World where
  X : Nat → Prop
  tp : Option Nat
  hd : Option Addr × Nat × Nat
instance : Coe En World := ⟨En.toWorld⟩
/-- The state s stands for the frame a and the world w; the function was entered at w0. -/
structure Sim (tt : Nat) (w0 : En) (G : Gh) (s : St) (a : Act) (w : World) : Prop where
  slot : ∀ i, RA w0.heap.size G w (s.slot i) (a.tmps.getD i undef)
  box : ∀ t cs, s.box t = some cs → ∃ b e us, G.box t = some b ∧ Blk w b e (List.toArray us) ∧ All2 (RC w0.heap.size G w) cs us
  defers : a.defers = []
  chg : Chg (fun b => G.tape = some b) w0 w
  boxLt : ∀ t b, G.box t = some b → w0.heap.size ≤ b ∧ b < w.heap.size
  ownLt : ∀ t v b, G.own t = some v → v.ownBlock = some b → w0.heap.size ≤ b ∧ b < w.heap.size
  boxInj : ∀ t t' b, G.box t = some b → G.box t' = some b → t = t'
  ownInj : ∀ t t' v v' b, G.own t = some v → G.own t' = some v' → v.ownBlock = some b → v'.ownBlock = some b → t = t'
  boxOwn : ∀ t t' v b, G.box t = some b → G.own t' = some v → v.ownBlock = some b → False
  tapeBox : ∀ t b, G.tape = some b → G.box t = some b → False
  tapeOwn : ∀ t v b, G.tape = some b → G.own t = some v → v.ownBlock = some b → False
  tape : s.tp = true → ∃ p, G.tape = some p ∧ TapeAt tt (GM G) G.hdr.1 G.hdr.2.1 G.hdr.2.2 w p
  noTape : s.tp = false → G.tape = none
  ext : ∀ b, G.ext b → b < w0.heap.size
  fz1 : ∀ b, G.fz b → b < w.heap.size ∧ w.heap[b]? = G.fw.heap[b]?
  fz2 : ∀ t v b, G.own t = some v → v.ownBlock = some b → ¬ G.fz b
  fz3 : ∀ b, G.tape = some b → ¬ G.fz b
  ext0 : G.ext = w0.X
  tape0 : ∀ p, w0.tp = some p → G.tape = some p ∧ G.hdr = w0.hd
  tapeNew : ∀ b, G.tape = some b → b < w0.heap.size → w0.tp = some b
end Go.Proofs.Ytlminbeepaacjaa
