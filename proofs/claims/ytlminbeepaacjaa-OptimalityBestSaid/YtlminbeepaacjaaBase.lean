/- Words for memory: 'Chg X w w'' (w' is w but for the blocks of X and what is new), 'Rep' (how a plain Lean datum lies in cells), slices of such. No program in sight. -/
import Derived.WalkKit
import Derived.WalkSpells
import Derived.WalkLawsBesides
import Derived.Deep.QuietTactic
import Derived.BigQuiet
import Derived.Lib.Hide
import Derived.Maps.AppendAt
namespace Go.Proofs.Ytlminbeepaacjaa
set_option linter.unusedVariables false
open Go.RowKit

/-- w' is w but for the blocks of X and what is new. -/
structure Chg (X : Nat → Prop) (w w' : World) : Prop where
  os : w'.os = w.os
  tape : w'.tape = w.tape
  output : w'.output = w.output
  size : w.heap.size ≤ w'.heap.size
  block : ∀ b, b < w.heap.size → ¬ X b → w'.heap[b]? = w.heap[b]?

def No : Nat → Prop := fun _ => False
def Is (p : Nat) : Nat → Prop := fun b => b = p
def From (p : Nat) : Nat → Prop := fun b => p ≤ b
theorem is_ {p : Nat} : Is p p := rfl
theorem no_ {b : Nat} : ¬ No b := fun h => h

section
variable {X Y : Nat → Prop} {a w w' : World}
theorem Chg.refl (X : Nat → Prop) (w : World) : Chg X w w := ⟨rfl, rfl, rfl, Nat.le_refl _, fun _ _ _ => rfl⟩
theorem Chg.andThen (h : Chg X a w) (k : Chg Y w w') (hY : ∀ b, b < a.heap.size → Y b → X b) : Chg X a w' :=
  ⟨k.os.trans h.os, k.tape.trans h.tape, k.output.trans h.output, Nat.le_trans h.size k.size, fun b hb hx =>
    (k.block b (Nat.lt_of_lt_of_le hb h.size) (fun hy => hx (hY b hb hy))).trans (h.block b hb hx)⟩
theorem Chg.trans (h : Chg X a w) (k : Chg X w w') : Chg X a w' := h.andThen k fun _ _ h => h
theorem Chg.keep (h : Chg X a w) (k : Chg No w w') : Chg X a w' := h.andThen k fun _ _ h => h.elim
theorem Chg.mono (h : Chg X a w) (hY : ∀ b, b < a.heap.size → X b → Y b) : Chg Y a w := ⟨h.os, h.tape, h.output, h.size, fun b hb hn => h.block b hb fun hx => hn (hY b hb hx)⟩
theorem Chg.of_no (h : Chg No a w) : Chg X a w := h.mono fun _ _ h => h.elim
theorem Chg.drew (h : Chg X a w) : Chg X a w.drew := ⟨h.os, h.tape, h.output, h.size, h.block⟩
theorem Chg.drewN (h : Chg X a w) (n : Nat) : Chg X a (w.drewN n) := ⟨h.os, h.tape, h.output, h.size, h.block⟩
theorem Chg.alloc (h : Chg X a w) (o : Obj) : Chg X a (w.alloc o) :=
  h.trans ⟨rfl, rfl, rfl, by simp, fun b hb _ => Below.heap_alloc _ _ _ hb⟩
theorem Chg.setCell (h : Chg X a w) {p : Addr} (hp : X p.block ∨ a.heap.size ≤ p.block) (u : Value) : Chg X a (w.setCell p u) :=
  ⟨h.os, h.tape, h.output, by simpa [World.setCell] using h.size, fun b hb hx => (Below.heap_setCell _ _ _ _ (by
    rintro rfl
    rcases hp with hp | hp
    · exact hx hp
    · omega)).trans (h.block b hb hx)⟩
theorem Chg.grown {row : Option Nat} (h : Chg X a w) (hg : w.grownBy w' row) (hr : ∀ k, row = some k → X k ∨ a.heap.size ≤ k) : Chg X a w' :=
  ⟨hg.os.trans h.os, hg.tape.trans h.tape, hg.output.trans h.output, Nat.le_trans h.size hg.size, fun b hb hx =>
    (hg.block b (Nat.lt_of_lt_of_le hb h.size) (fun e => by
      rcases hr b e.symm with h | h
      · exact hx h
      · omega)).trans (h.block b hb hx)⟩
theorem Chg.below (h : Chg No a w) : Below a.heap.size a w := ⟨h.os, h.tape, h.output, h.size, fun b hb => h.block b hb no_⟩
theorem Chg.of_below {B : Nat} (h : Below B a w) (hB : B = a.heap.size) : Chg No a w := ⟨h.os, h.tape, h.output, h.size, fun b hb _ => h.block b (by omega)⟩
/-- From a changed world back to the call's beginning: what is changed is new. -/
theorem Chg.new (h : Chg X a w) (hX : ∀ b, X b → a.heap.size ≤ b) : Chg No a w := h.mono fun b hb hx => absurd (hX b hx) (by omega)
theorem Chg.cell (h : Chg X a w) {p : Addr} (hp : p.block < a.heap.size) (hx : ¬ X p.block) : w.cell? p = a.cell? p := World.cell?_of_block (h.block _ hp hx)
theorem Chg.frozen (h : Chg X a w) {p : Addr} (hp : p.block < a.heap.size) (hx : ¬ X p.block) : w.frozen? p = a.frozen? p := World.frozen?_of_block (h.block _ hp hx)
end

/-- The block g of w: the cells cs, of element type t, none of them frozen. -/
def Blk (w : World) (g : Nat) (t : TypeId) (cs : Array Value) : Prop := w.heap[g]? = some (.cells cs t (0, 0))
section
variable {X : Nat → Prop} {w w' : World} {g : Nat} {t : TypeId} {cs : Array Value}
theorem Blk.lt (h : Blk w g t cs) : g < w.heap.size := (Array.getElem?_eq_some_iff.1 h).1
theorem Blk.cell (h : Blk w g t cs) (i : Nat) : w.cell? ⟨g, i, none⟩ = cs[i]? := by
  have e : w.heap[g]? = some (.cells cs t (0, 0)) := h
  simp [World.cell?, e]
theorem Blk.frozen (h : Blk w g t cs) (i : Nat) : w.frozen? ⟨g, i, none⟩ = false := by
  have e : w.heap[g]? = some (.cells cs t (0, 0)) := h
  simp [World.frozen?, e]
theorem Blk.chg (h : Blk w g t cs) (hb : Chg X w w') (hg : ¬ X g) : Blk w' g t cs := (hb.block g h.lt hg).trans h
theorem Blk.made (w : World) (t : TypeId) (cs : Array Value) : Blk (w.alloc (.cells cs t)) w.heap.size t cs := heap_alloc_new w _
theorem Blk.made' (w : World) (t : TypeId) (cs : Array Value) : Blk (w.alloc (.cells cs t)).drew w.heap.size t cs := heap_alloc_new w _
theorem Blk.stored (h : Blk w g t cs) (i : Nat) (u : Value) : Blk (w.setCell ⟨g, i, none⟩ u) g t (cs.setIfInBounds i u) := by
  have e : w.heap[g]? = some (.cells cs t (0, 0)) := h
  show (w.setCell ⟨g, i, none⟩ u).heap[g]? = _
  rw [World.setCell, Array.getElem?_modify, if_pos rfl, e]
  rfl
/-- Two blocks of two element types are two. -/
theorem Blk.apart {g' : Nat} {t' : TypeId} {cs' : Array Value} (h : Blk w g t cs) (h' : Blk w g' t' cs') (hne : t ≠ t') : g ≠ g' := by
  intro e
  have e1 : w.heap[g]? = some (.cells cs t (0, 0)) := h
  have e2 : w.heap[g']? = some (.cells cs' t' (0, 0)) := h'
  rw [e, e2] at e1
  simp only [Option.some.injEq, Obj.cells.injEq] at e1
  exact hne e1.2.1.symm
end

/-- How a plain datum lies in cells: blocks of X are not among those it reads. -/
structure Rep (α : Type) where
  size : Nat
  rep : World → (Nat → Prop) → List Value → α → Prop
  len : ∀ {w X cs x}, rep w X cs x → cs.length = size
  one : ∀ {w X cs x}, rep w X cs x → ∀ u ∈ cs, u.oneCell' = true
  move : ∀ {w w' X Y cs x}, rep w X cs x → (∀ b, b < w.heap.size → ¬ X b → w'.heap[b]? = w.heap[b]?) → (∀ b, b < w.heap.size → Y b → X b) → rep w' Y cs x

section
variable {α β : Type} (r : Rep α) (s : Rep β)
def Rep.int : Rep Int := ⟨1, fun _ _ cs x => cs = [.int .i64 x], by rintro _ _ _ _ rfl; rfl, by rintro _ _ _ _ rfl; simp [Value.oneCell'], fun h _ _ => h⟩
def Rep.bool : Rep Bool := ⟨1, fun _ _ cs x => cs = [.bool x], by rintro _ _ _ _ rfl; rfl, by rintro _ _ _ _ rfl; simp [Value.oneCell'], fun h _ _ => h⟩
def Rep.str : Rep ByteArray := ⟨1, fun _ _ cs x => cs = [.string x], by rintro _ _ _ _ rfl; rfl, by rintro _ _ _ _ rfl; simp [Value.oneCell'], fun h _ _ => h⟩
def Rep.pair : Rep (α × β) := ⟨r.size + s.size, fun w X cs x => ∃ c d, cs = c ++ d ∧ r.rep w X c x.1 ∧ s.rep w X d x.2,
  by rintro _ _ _ _ ⟨c, d, rfl, h1, h2⟩; simp [r.len h1, s.len h2],
  by
    rintro _ _ _ _ ⟨c, d, rfl, h1, h2⟩ u hu
    rcases List.mem_append.1 hu with hu | hu
    · exact r.one h1 u hu
    · exact s.one h2 u hu,
  by
    rintro _ _ _ _ _ _ ⟨c, d, rfl, h1, h2⟩ hb hX
    exact ⟨c, d, rfl, r.move h1 hb hX, s.move h2 hb hX⟩⟩
def Rep.by (f : β → α) : Rep β := ⟨r.size, fun w X cs x => r.rep w X cs (f x), fun h => r.len h, fun h => r.one h, fun h hb hX => r.move h hb hX⟩

/-- The slice (A, n) holds the list xs. -/
structure Slc (w : World) (X : Nat → Prop) (A : Option Addr) (n c : Nat) (xs : List α) : Prop where
  len : xs.length = n
  cap : n ≤ c
  at_ : 0 < n → ∃ b off, A = some ⟨b, off, none⟩ ∧ b < w.heap.size ∧ ¬ X b ∧ ∀ i x, xs[i]? = some x → ∃ ys, (∀ j u, ys[j]? = some u → w.cell? ⟨b, off + i * r.size + j, none⟩ = some u) ∧ r.rep w X ys x

theorem Slc.move {w w' : World} {X Y : Nat → Prop} {A : Option Addr} {n c : Nat} {xs : List α} (h : Slc r w X A n c xs) (hb : ∀ b, b < w.heap.size → ¬ X b → w'.heap[b]? = w.heap[b]?) (hX : ∀ b, b < w.heap.size → Y b → X b) : Slc r w' Y A n c xs :=
  ⟨h.len, h.cap, fun hn => by
    obtain ⟨b, off, rfl, hlt, hx, hi⟩ := h.at_ hn
    have e := hb b hlt hx
    refine ⟨b, off, rfl, ?_, fun hy => hx (hX b hlt hy), fun i x hxi => ?_⟩
    · rcases Nat.lt_or_ge b w'.heap.size with h | h
      · exact h
      · rw [Array.getElem?_eq_none h, Array.getElem?_eq_getElem hlt] at e; cases e
    · obtain ⟨ys, hy, hr⟩ := hi i x hxi
      exact ⟨ys, fun j u hu => (World.cell?_of_block (a := ⟨b, _, none⟩) e).trans (hy j u hu), r.move hr hb hX⟩⟩
theorem Slc.chg {w w' : World} {X Y : Nat → Prop} {A : Option Addr} {n c : Nat} {xs : List α} (h : Slc r w X A n c xs) (hb : Chg Y w w') (hX : ∀ b, b < w.heap.size → Y b → X b) : Slc r w' X A n c xs :=
  h.move r (fun b hlt hx => hb.block b hlt fun hy => hx (hX b hlt hy)) fun _ _ h => h
theorem Slc.keep {w w' : World} {X : Nat → Prop} {A : Option Addr} {n c : Nat} {xs : List α} (h : Slc r w X A n c xs) (hb : Chg No w w') : Slc r w' X A n c xs := h.chg r hb fun _ _ h => h.elim
theorem Slc.less {w : World} {X Y : Nat → Prop} {A : Option Addr} {n c : Nat} {xs : List α} (h : Slc r w X A n c xs) (hX : ∀ b, b < w.heap.size → Y b → X b) : Slc r w Y A n c xs := h.move r (fun _ _ _ => rfl) hX
theorem Slc.nil {w : World} {X : Nat → Prop} : Slc r w X none 0 0 [] := ⟨rfl, Nat.le_refl _, fun h => absurd h (by omega)⟩

def Rep.slice : Rep (List α) := ⟨1, fun w X cs xs => ∃ A n c, cs = [.slice A n c] ∧ Slc r w X A n c xs,
  by rintro _ _ _ _ ⟨A, n, c, rfl, _⟩; rfl,
  by rintro _ _ _ _ ⟨A, n, c, rfl, _⟩; simp [Value.oneCell'],
  by rintro _ _ _ _ _ _ ⟨A, n, c, rfl, h⟩ hb hX; exact ⟨A, n, c, rfl, h.move r hb hX⟩⟩
end

def nth (xs : List Int) (k : Nat) : Int := xs.getD k 0
theorem nth_some {xs : List Int} {k : Nat} (h : k < xs.length) : xs[k]? = some (nth xs k) := by
  simp [nth, List.getD_eq_getElem?_getD, List.getElem?_eq_getElem h]
abbrev Ints (w : World) (X : Nat → Prop) (A : Option Addr) (n c : Nat) (xs : List Int) : Prop := Slc Rep.int w X A n c xs
theorem Slc.int_at {w : World} {X : Nat → Prop} {A : Option Addr} {n c : Nat} {xs : List Int} (h : Ints w X A n c xs) : 0 < n → ∃ b off, A = some ⟨b, off, none⟩ ∧ b < w.heap.size ∧ ¬ X b ∧ ∀ k, k < n → w.cell? ⟨b, off + k, none⟩ = some (.int .i64 (nth xs k)) := by
  intro hn
  obtain ⟨b, off, hA, hlt, hx, hi⟩ := h.at_ hn
  refine ⟨b, off, hA, hlt, hx, fun k hk => ?_⟩
  obtain ⟨ys, hy, rfl⟩ := hi k _ (nth_some (by rw [h.len]; exact hk))
  simpa [Rep.int] using hy 0 _ rfl

/-- The cells of 'make([]int, n)'. -/
def zeros (n : Nat) : Array Value := ((List.replicate n (0 : Int)).map (Value.int .i64)).toArray
theorem madeCells_zeros (n : Nat) : madeCells #[Value.int .i64 0] n = zeros n := by
  apply Array.ext
  · simp [madeCells, zeros]
  · intro i h1 h2
    simp [madeCells, zeros, Nat.mod_one]
theorem zeros_set (n i : Nat) (x : Int) : (zeros n).setIfInBounds i (.int .i64 x) = (((List.replicate n (0 : Int)).set i x).map (Value.int .i64)).toArray := by
  simp only [zeros, List.setIfInBounds_toArray, List.map_set]
theorem run_makeInts {P : Program} {t e : TypeId} {bytes : Nat} (ht : P.underlying t = some (.slice e)) (h : (P.info? e).map (fun i => (i.zero, i.size, i.bytes)) = some (some (.int .i64 0), 1, bytes)) (hb : bytes ≤ 8192) (x : Int) (n : Nat) (hx : x = n) (hn : n ≤ 1000000) (w : World) :
    (Instr.makeSlice t (.int .i64 x) (.int .i64 x)).run P w = .ok (.slice (some ⟨w.heap.size, 0, none⟩) n n) (w.alloc (.cells (zeros n) e)) := by
  subst hx
  obtain ⟨i, hi, h1, h2, h3⟩ := info_parts h
  have hm : (i.bytes : Int) * (n : Int) ≤ 281474976710656 := by
    have : i.bytes * n ≤ 8192 * 1000000 := Nat.mul_le_mul (by omega) hn
    have h' : ((i.bytes * n : Nat) : Int) ≤ 281474976710656 := by omega
    rwa [Int.natCast_mul] at h'
  have hr := run_make (P := P) w t e i _ ht hi h1 .i64 .i64 n n (by omega) (by omega) hm (by omega)
  simp only [Int.toNat_natCast, h2, Nat.mul_one] at hr
  rw [hr]
  show Result.ok _ (w.alloc (.cells (madeCells #[Value.int .i64 0] n) e)) = _
  rw [madeCells_zeros]
/-- A slice over a whole block of numbers. -/
theorem ints_blk {w : World} {g : Nat} {t : TypeId} {cs : Array Value} (h : Blk w g t cs) (vs : List Int) {X : Nat → Prop} {A : Option Addr} {n c : Nat} (hcs : cs = (vs.map (Value.int .i64)).toArray) (hX : ¬ X g) (hn : n = vs.length) (hc : c = vs.length) (hA : A = some ⟨g, 0, none⟩) : Ints w X A n c vs := by
  subst hcs hn hc hA
  refine ⟨rfl, Nat.le_refl _, fun _ => ⟨g, 0, rfl, h.lt, hX, fun i x hx => ⟨[.int .i64 x], fun j u hu => ?_, rfl⟩⟩⟩
  rw [h.cell]
  rcases j with _ | j
  · simp at hu
    subst hu
    simpa [Rep.int] using hx
  · simp at hu
theorem ints_lit (w : World) (vs : List Int) (t : TypeId) {X : Nat → Prop} {A : Option Addr} {n c : Nat} {cs : Array Value} (hcs : cs = (vs.map (Value.int .i64)).toArray) (hX : ¬ X w.heap.size) (hn : n = vs.length) (hc : c = vs.length) (hA : A = some ⟨w.heap.size, 0, none⟩) : Ints (w.alloc (.cells cs t)) X A n c vs :=
  ints_blk (Blk.made w t cs) vs hcs hX hn hc hA

/-- The cells of a new block. -/
theorem cells_new (w : World) (cs : List Value) (t : TypeId) : ∀ j u, cs[j]? = some u → (w.alloc (.cells cs.toArray t)).cell? ((⟨w.heap.size, 0, none⟩ : Addr).add j) = some u := by
  intro j u hu
  have e : (⟨w.heap.size, 0, none⟩ : Addr).add j = ⟨w.heap.size, j, none⟩ := by
    unfold Addr.add
    split
    · next h => subst h; rfl
    · simp
  rw [e, (Blk.made w t cs.toArray).cell]
  simpa using hu
theorem cells_new' (w : World) (cs : List Value) (t : TypeId) (g : Nat) (hg : g = w.heap.size) : ∀ j u, cs[j]? = some u → (w.alloc (.cells cs.toArray t)).drew.cell? ((⟨g, 0, none⟩ : Addr).add j) = some u := by
  subst hg
  exact cells_new w cs t
/-- The block in which a slice value lies. -/
def Value.inn (v : Value) : Nat → Prop := fun b => v.ownBlock = some b

/-- A row of the call's own (its block from base on, element type e): its elements read as xs, and what they point to lies neither in X nor in the row itself. -/
def Own {α : Type} (r : Rep α) (w : World) (X : Nat → Prop) (base : Nat) (e : TypeId) (v : Value) (xs : List α) : Prop :=
  ∃ css : List (List Value), css.length = xs.length ∧ w.ownsRow base e r.size v xs.length css.flatten ∧
    ∀ (i : Nat) (cs : List Value) (x : α), css[i]? = some cs → xs[i]? = some x → r.rep w (fun b => X b ∨ v.ownBlock = some b) cs x

section
variable {α : Type} {r : Rep α} {w w' : World} {X Y : Nat → Prop} {base : Nat} {e : TypeId} {v : Value} {xs : List α}
theorem Own.nil : Own r w X base e (.slice none 0 0) [] := ⟨[], rfl, World.ownsRow_nil w base e r.size, fun i cs x h => by simp at h⟩
theorem Own.blk (h : Own r w X base e v xs) : ∀ k, v.ownBlock = some k → base ≤ k ∧ k < w.heap.size := by
  obtain ⟨_, _, ho, _⟩ := h
  exact ho.lt
theorem Own.chg (h : Own r w X base e v xs) (hb : Chg Y w w') (hX : ∀ b, b < w.heap.size → Y b → X b) (hv : ∀ k, v.ownBlock = some k → ¬ Y k) : Own r w' X base e v xs := by
  obtain ⟨css, hl, ho, hr⟩ := h
  refine ⟨css, hl, ⟨ho.1, ?_⟩, fun i cs x h1 h2 => r.move (hr i cs x h1 h2) (fun b hlt hn => hb.block b hlt fun hy => hn (.inl (hX b hlt hy))) fun _ _ h => h⟩
  rcases ho.2 with h2 | ⟨g, cap, cur, hv', hg, hh, rest⟩
  · exact .inl h2
  · exact .inr ⟨g, cap, cur, hv', hg, (hb.block g (Array.getElem?_eq_some_iff.1 hh).1 (hv g (by rw [hv']; rfl))).trans hh, rest⟩
theorem Own.keep (h : Own r w X base e v xs) (hb : Chg No w w') : Own r w' X base e v xs := h.chg hb (fun _ _ h => h.elim) fun _ _ h => h
theorem Own.less (h : Own r w X base e v xs) (hX : ∀ b, b < w.heap.size → Y b → X b ∨ v.ownBlock = some b) : Own r w Y base e v xs := by
  obtain ⟨css, hl, ho, hr⟩ := h
  exact ⟨css, hl, ho, fun i cs x h1 h2 => r.move (hr i cs x h1 h2) (fun _ _ _ => rfl) fun b hlt hb => hb.elim (hX b hlt) .inr⟩
theorem Own.rebase (h : Own r w X base e v xs) {base' : Nat} (hb : ∀ k, v.ownBlock = some k → base' ≤ k) : Own r w X base' e v xs := by
  obtain ⟨css, hl, ho, hr⟩ := h
  refine ⟨css, hl, ⟨ho.1, ?_⟩, hr⟩
  rcases ho.2 with h2 | ⟨g, cap, cur, hv', hg, rest⟩
  · exact .inl h2
  · exact .inr ⟨g, cap, cur, hv', hb g (by rw [hv']; rfl), rest⟩
theorem Own.form (h : Own r w X base e v xs) : ∃ A c, v = .slice A xs.length c ∧ xs.length ≤ c ∧ c ≤ maxLen := by
  obtain ⟨css, hl, ho, hr⟩ := h
  rcases ho.2 with ⟨rfl, hn⟩ | ⟨g, cap, cur, rfl, _, _, hc, hm, _⟩
  · exact ⟨none, 0, by rw [hn], by omega, Nat.zero_le _⟩
  · exact ⟨_, cap, rfl, hc, hm⟩

theorem flatten_at {css : List (List Value)} {k : Nat} (hs : ∀ c ∈ css, c.length = k) {i j : Nat} {c : List Value} {u : Value} (hc : css[i]? = some c) (hu : c[j]? = some u) : css.flatten[i * k + j]? = some u := by
  induction css generalizing i with
  | nil => simp at hc
  | cons d css ih =>
    have hd : d.length = k := hs d (by simp)
    cases i with
    | zero =>
      simp at hc
      subst hc
      have hj : j < d.length := (List.getElem?_eq_some_iff.1 hu).1
      rw [List.flatten_cons, List.getElem?_append_left (by omega)]
      simpa using hu
    | succ i =>
      rw [List.flatten_cons, List.getElem?_append_right (by rw [hd, Nat.add_mul]; omega)]
      have := ih (fun c hc => hs c (by simp [hc])) (i := i) (by simpa using hc)
      rw [← this]
      congr 1
      rw [hd, Nat.add_mul]
      omega

theorem Own.slc (h : Own r w X base e v xs) (hX : ∀ b, b < w.heap.size → Y b → X b) (hv : ∀ k, v.ownBlock = some k → ¬ Y k) : ∃ A c, v = .slice A xs.length c ∧ c ≤ maxLen ∧ Slc r w Y A xs.length c xs := by
  obtain ⟨css, hl, ho, hr⟩ := h
  have hlen : ∀ c ∈ css, c.length = r.size := by
    intro c hc
    obtain ⟨i, hi, rfl⟩ := List.mem_iff_getElem.1 hc
    exact r.len (hr i _ _ (List.getElem?_eq_getElem hi) (List.getElem?_eq_getElem (by omega)))
  rcases ho.2 with ⟨rfl, hn⟩ | ⟨g, cap, cur, rfl, hg, hh, hc, hm, hsz, ht⟩
  · refine ⟨none, 0, by rw [hn], Nat.zero_le _, rfl, by omega, fun h => by omega⟩
  · refine ⟨_, cap, rfl, hm, rfl, hc, fun hn => ⟨g, 0, rfl, (Array.getElem?_eq_some_iff.1 hh).1, hv g rfl, fun i x hx => ?_⟩⟩
    have hi : i < css.length := by rw [hl]; exact (List.getElem?_eq_some_iff.1 hx).1
    refine ⟨css[i], fun j u hu => ?_, r.move (hr i _ x (List.getElem?_eq_getElem hi) hx) (fun _ _ _ => rfl) fun b hlt hy => .inl (hX b hlt hy)⟩
    have hf := flatten_at hlen (List.getElem?_eq_getElem hi) hu
    rw [← ht, List.getElem?_take] at hf
    split at hf
    · have e : w.heap[g]? = some (.cells cur _ (0, 0)) := hh
      simpa [World.cell?, e] using hf
    · cases hf

/-- Rows of two element types lie in two blocks. -/
theorem Own.apart {β : Type} {s : Rep β} {base' : Nat} {e' : TypeId} {v' : Value} {ys : List β} (h : Own r w X base e v xs) (h' : Own s w Y base' e' v' ys) (hne : e ≠ e') {k : Nat} (hk : v.ownBlock = some k) (hk' : v'.ownBlock = some k) : False := by
  obtain ⟨_, _, ho, _⟩ := h
  obtain ⟨_, _, ho', _⟩ := h'
  rcases ho.2 with ⟨rfl, _⟩ | ⟨g, _, cur, rfl, _, hh, _⟩
  · simp [Value.ownBlock] at hk
  · rcases ho'.2 with ⟨rfl, _⟩ | ⟨g', _, cur', rfl, _, hh', _⟩
    · simp [Value.ownBlock] at hk'
    · simp only [Value.ownBlock, Option.some.injEq] at hk hk'
      subst hk hk'
      rw [hh] at hh'
      simp only [Option.some.injEq, Obj.cells.injEq] at hh'
      exact hne hh'.2.1
theorem Own.int_any {zs : List Int} (h : Own Rep.int w X base e v zs) : Own Rep.int w Y base e v zs := h
theorem Own.int_chg {zs : List Int} (h : Own Rep.int w X base e v zs) (hb : Chg Y w w') (hv : ∀ k, v.ownBlock = some k → ¬ Y k) : Own Rep.int w' X base e v zs := h.int_any.chg (X := Y) hb (fun _ _ h => h) hv
/-- Behind an append of one element. -/
theorem Own.snoc (h : Own r w X base e v xs) {css : List (List Value)} {cs : List Value} {x : α} {v' : Value} (hl : css.length = xs.length)
    (hr : ∀ (i : Nat) (cs : List Value) (x : α), css[i]? = some cs → xs[i]? = some x → r.rep w (fun b => X b ∨ v.ownBlock = some b) cs x) (hx : r.rep w (fun b => X b ∨ v.ownBlock = some b) cs x)
    (ho : w'.ownsRow base e r.size v' (xs.length + 1) (css.flatten ++ cs)) (hg : w.grownBy w' v.ownBlock) (hv : v'.ownBlock = v.ownBlock ∨ v'.ownBlock = some w.heap.size) :
    Own r w' X base e v' (xs ++ [x]) := by
  have mv : ∀ {cs : List Value} {x : α}, r.rep w (fun b => X b ∨ v.ownBlock = some b) cs x → r.rep w' (fun b => X b ∨ v'.ownBlock = some b) cs x := fun h =>
    r.move h (fun b hlt hn => hg.block b hlt fun e => hn (.inr e.symm)) fun b hlt hb => by
      rcases hb with hb | hb
      · exact .inl hb
      · rcases hv with hv | hv
        · exact .inr (hv ▸ hb)
        · rw [hv] at hb; injection hb with hb; omega
  refine ⟨css ++ [cs], by simp [hl], by simpa using ho, fun i c y h1 h2 => ?_⟩
  rcases Nat.lt_or_ge i xs.length with hi | hi
  · rw [List.getElem?_append_left (by omega)] at h1
    rw [List.getElem?_append_left hi] at h2
    exact mv (hr i c y h1 h2)
  · have : i = xs.length := by
      have := (List.getElem?_eq_some_iff.1 h2).1
      simp at this
      omega
    subst this
    rw [List.getElem?_append_right (by omega)] at h1 h2
    simp [hl] at h1 h2
    subst h1 h2
    exact mv hx
end

section
variable {P : Program}
/-- What the model's table says of an element type. -/
structure Elem (P : Program) (t e : TypeId) (size : Nat) : Prop where
  ht : P.underlying t = some (.slice e)
  hi : ∃ i z, P.info? e = some i ∧ i.zero = some z ∧ i.size = size ∧ i.bytes ≤ 8192 ∧ z.cells.size = size
  pos : 0 < size

theorem elem_of {t e : TypeId} {z : Value} {size bytes : Nat} (ht : P.underlying t = some (.slice e)) (h : (P.info? e).map (fun i => (i.zero, i.size, i.bytes)) = some (some z, size, bytes)) (hz : z.cells.size = size) (hb : bytes ≤ 8192) (hs : 0 < size) : Elem P t e size := by
  obtain ⟨i, hi, h1, h2, h3⟩ := info_parts h
  exact ⟨ht, ⟨i, z, hi, h1, h2, by omega, hz⟩, hs⟩

theorem wp_append_rep {α : Type} {r : Rep α} {o : Oper} {a : Act} {K : Act → World → Prop} {Q : Exit → Act → World → Prop} {w : World} {X : Nat → Prop} {base : Nat} {v : Value} {xs : List α} (t e : TypeId) (hE : Elem P t e r.size) (s y : Operand)
    (ho : o.op = .call { callee := .builtin .append, args := #[s, y], argTypes := #[t, t] }) (hs : a.eval s = v) (hown : Own r w X base e v xs)
    (ad : Addr) (c : Nat) (cs : List Value) (x : α) (hy : a.eval y = .slice (some ad) 1 c) (hcs : ∀ j u, cs[j]? = some u → w.cell? (ad.add j) = some u) (hx : r.rep w (fun b => X b ∨ v.ownBlock = some b) cs x)
    (hn : xs.length ≤ 1000000) (hbase : base ≤ w.heap.size)
    (h : ∀ A' c' w', Own r w' X base e (.slice A' (xs.length + 1) c') (xs ++ [x]) → Chg (fun b => v.ownBlock = some b) w w' → ((Value.slice A' (xs.length + 1) c').ownBlock = v.ownBlock ∨ (Value.slice A' (xs.length + 1) c').ownBlock = some w.heap.size) → K (a.put o.dst (.slice A' (xs.length + 1) c')) w') : o.wp P a w K Q := by
  obtain ⟨css, hl, how, hr⟩ := id hown
  obtain ⟨i, z, hi, hz, hsz, hby, hzc⟩ := hE.hi
  obtain ⟨v', w', hrun, h2, h3, _, h5⟩ := run_append_own_at (P := P) w base t o.type e i z r.size i.bytes hE.ht hi hz hsz rfl hzc hE.pos v xs.length css.flatten how ad 1 c cs (by rw [r.len hx]; omega) hcs (r.one hx)
    (by simp only [maxLen]; omega) (Nat.le_trans (Nat.mul_le_mul (show xs.length + 1 ≤ 1000001 by omega) hby) (by omega)) hbase
  unfold Oper.wp execOp
  simp only [ho, resolve, invoke, builtin, Sem.run_bind, Sem.run_pure, Result.andThen_ok, List.map_toArray, List.map_cons, List.map_nil, hs, hy, hrun]
  have hS := hown.snoc hl hr hx h2 h3 h5
  obtain ⟨A', c', hv', -, -⟩ := hS.form
  simp only [List.length_append, List.length_singleton] at hv'
  subst hv'
  exact h A' c' w' hS ((Chg.refl _ _).grown h3 fun k hk => .inl hk) h5

theorem wpList_append_rep {α : Type} {r : Rep α} {ops : Array Oper} {rest : List Oper} {o : Oper} {a : Act} {Q : Exit → Act → World → Prop} {w : World} {X : Nat → Prop} {base : Nat} {v : Value} {xs : List α} (hgd : o.guard = none) (t e : TypeId) (hE : Elem P t e r.size) (s y : Operand)
    (ho : o.op = .call { callee := .builtin .append, args := #[s, y], argTypes := #[t, t] }) (hs : a.eval s = v) (hown : Own r w X base e v xs)
    (ad : Addr) (c : Nat) (cs : List Value) (x : α) (hy : a.eval y = .slice (some ad) 1 c) (hcs : ∀ j u, cs[j]? = some u → w.cell? (ad.add j) = some u) (hx : r.rep w (fun b => X b ∨ v.ownBlock = some b) cs x)
    (hn : xs.length ≤ 1000000) (hbase : base ≤ w.heap.size)
    (h : ∀ A' c' w', Own r w' X base e (.slice A' (xs.length + 1) c') (xs ++ [x]) → Chg (fun b => v.ownBlock = some b) w w' → ((Value.slice A' (xs.length + 1) c').ownBlock = v.ownBlock ∨ (Value.slice A' (xs.length + 1) c').ownBlock = some w.heap.size) → wpList P ops Q rest (a.put o.dst (.slice A' (xs.length + 1) c')) w') : wpList P ops Q (o :: rest) a w :=
  wpList_plain hgd fun _ hK => wp_append_rep t e hE s y ho hs hown ad c cs x hy hcs hx hn hbase fun A' c' w' h1 h2 h3 => hK _ _ (h A' c' w' h1 h2 h3)
theorem step_append_rep {α : Type} {r : Rep α} {ops : Array Oper} {o : Oper} {a : Act} {K : Act → World → Prop} {Q : Exit → Act → World → Prop} {E : Prop} {w : World} {X : Nat → Prop} {base : Nat} {v : Value} {xs : List α} (hgd : o.guard = none) (t e : TypeId) (hE : Elem P t e r.size) (s y : Operand)
    (ho : o.op = .call { callee := .builtin .append, args := #[s, y], argTypes := #[t, t] }) (hs : a.eval s = v) (hown : Own r w X base e v xs)
    (ad : Addr) (c : Nat) (cs : List Value) (x : α) (hy : a.eval y = .slice (some ad) 1 c) (hcs : ∀ j u, cs[j]? = some u → w.cell? (ad.add j) = some u) (hx : r.rep w (fun b => X b ∨ v.ownBlock = some b) cs x)
    (hn : xs.length ≤ 1000000) (hbase : base ≤ w.heap.size)
    (h : ∀ A' c' w', Own r w' X base e (.slice A' (xs.length + 1) c') (xs ++ [x]) → Chg (fun b => v.ownBlock = some b) w w' → ((Value.slice A' (xs.length + 1) c').ownBlock = v.ownBlock ∨ (Value.slice A' (xs.length + 1) c').ownBlock = some w.heap.size) → K (a.put o.dst (.slice A' (xs.length + 1) c')) w') :
    if Region.wanted o (yielded ops a.tmps) = true then Oper.wp P o a w K Q else E := by
  have hw : Region.wanted o (yielded ops a.tmps) = true := by simp [Region.wanted, hgd]
  rw [if_pos hw]
  exact wp_append_rep t e hE s y ho hs hown ad c cs x hy hcs hx hn hbase h
end

end Go.Proofs.Ytlminbeepaacjaa
