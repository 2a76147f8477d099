/- The generator of programs: Tape.Program. -/
import Derived.Test.YtipelkbdonfkoaaLists
import Derived.Test.YtipelkbdonfkoaaTypes
import Derived.Deep.RegionLaw
namespace Go.Proofs.Ytipelkbdonfkoaa
set_option linter.unusedVariables false
open Go.RowKit

/-- The state while a program is built: w the world at the call's beginning; block w.heap.size + 1 is the variable. -/
structure PB (p : Nat) (w wr : World) (cv rv : Value) (costs : List Int) (rows : List Row) : Prop where
  g6 : Blk wr w.heap.size 27 #[.slice none 0 0, .slice none 0 0]
  g7 : Blk wr (w.heap.size + 1) 27 #[cv, rv]
  oc : Own Rep.int wr No (w.heap.size + 2) 3 cv costs
  or : Own Rep.row wr (fun b => b < w.heap.size + 2 ∨ cv.ownBlock = some b) (w.heap.size + 2) 32 rv rows
  tape : TapeOk wr p
  chg : Chg (Is p) w wr

theorem PB.cost {p : Nat} {w wr wq w2 : World} {cv v' rv : Value} {costs costs' : List Int} {rows : List Row} {o : Obj} (B : PB p w wr cv rv costs rows) (hp : p < w.heap.size) (hc : Chg (Is p) wr wq) (ht : TapeOk wq p)
    (hc2 : Chg (fun b => cv.ownBlock = some b) (wq.alloc o) w2) (ho2 : Own Rep.int w2 No (w.heap.size + 2) 3 v' costs') (hb2 : v'.ownBlock = cv.ownBlock ∨ v'.ownBlock = some (wq.alloc o).heap.size) :
    PB p w (w2.setCell ⟨w.heap.size + 1, 0, none⟩ v') v' rv costs' rows := by
  have hcv := B.oc.blk
  have hrv := B.or.blk
  have hv' := ho2.blk
  have h1 : Chg (fun b => b = p ∨ cv.ownBlock = some b) wr w2 := ((hc.mono fun b _ h => .inl h).alloc _).andThen hc2 fun b _ h => .inr h
  have h2 : Chg (fun b => b = p ∨ cv.ownBlock = some b ∨ b = w.heap.size + 1) wr (w2.setCell ⟨w.heap.size + 1, 0, none⟩ v') := (h1.mono fun b _ h => h.elim .inl fun h => .inr (.inl h)).setCell (.inl (.inr (.inr rfl))) v'
  have hset : Chg (Is (w.heap.size + 1)) w2 (w2.setCell ⟨w.heap.size + 1, 0, none⟩ v') := (Chg.refl (Is (w.heap.size + 1)) w2).setCell (p := ⟨w.heap.size + 1, 0, none⟩) (.inl is_) v'
  have hs := hc.size
  have hg7 := B.g7.lt
  refine ⟨B.g6.chg h2 ?_, ?_, ho2.int_chg hset ?_, ?_, ?_, ?_⟩
  · rintro (h | h | h)
    · omega
    · have := hcv _ h; omega
    · omega
  · have := (B.g7.chg h1 (by rintro (h | h); · omega
                             · have := hcv _ h; omega)).stored 0 v'
    simpa using this
  · intro k hk h
    have := hv' k hk
    have : k = w.heap.size + 1 := h
    omega
  · have e1 : Own Rep.row wr (fun b => (b < w.heap.size + 2 ∨ cv.ownBlock = some b) ∨ v'.ownBlock = some b) (w.heap.size + 2) 32 rv rows := B.or.less fun b hlt h => by
      rcases h with h | h
      · exact .inl h
      · rcases hb2 with hb2 | hb2
        · exact .inl (.inr (hb2 ▸ h))
        · rw [hb2] at h
          simp at h
          omega
    have e2 := e1.chg h2 (fun b _ h => by rcases h with h | h | h; · exact .inl (.inl (by omega))
                                          · exact .inl (.inr h)
                                          · exact .inl (.inl (by omega))) (fun k hk h => by
      rcases h with h | h | h
      · have := hrv k hk; omega
      · exact B.or.apart B.oc (by decide) hk h
      · have := hrv k hk; omega)
    exact e2.less fun b _ h => .inl (h.elim (fun h => .inl (.inl h)) .inr)
  · refine ((ht.keep ((Chg.refl No wq).alloc o)).chg hc2 fun b _ h => ?_).chg hset fun b _ h => ?_
    · have := hcv b h; omega
    · have : b = w.heap.size + 1 := h; omega
  · exact B.chg.andThen h2 fun b hb h => by
      rcases h with h | h | h
      · exact h
      · have := hcv b h; omega
      · omega

/-- 's.F = append(s.F, x)' where s lies in block g. -/
theorem push_field {p g : Nat} {T e : TypeId} {cs : Array Value} (f : Nat) {base : Nat} {wr wq w2 : World} {cv v' : Value} {xs xs' : List Int} {o : Obj} (hb : Blk wr g T cs) (hp : p < g) (hg : g < base) (ho : Own Rep.int wr No base e cv xs)
    (hc : Chg (Is p) wr wq) (ht : TapeOk wq p) (hc2 : Chg (fun b => cv.ownBlock = some b) (wq.alloc o) w2) (ho2 : Own Rep.int w2 No base e v' xs') :
    Blk (w2.setCell ⟨g, f, none⟩ v') g T (cs.setIfInBounds f v') ∧ Own Rep.int (w2.setCell ⟨g, f, none⟩ v') No base e v' xs' ∧ TapeOk (w2.setCell ⟨g, f, none⟩ v') p ∧
      Chg (fun b => b = p ∨ cv.ownBlock = some b ∨ b = g) wr (w2.setCell ⟨g, f, none⟩ v') := by
  have hset : Chg (Is g) w2 (w2.setCell ⟨g, f, none⟩ v') := (Chg.refl (Is g) w2).setCell (p := ⟨g, f, none⟩) (.inl is_) v'
  have h1 : Chg (fun b => b = p ∨ cv.ownBlock = some b) wr w2 := ((hc.mono fun b _ h => .inl h).alloc _).andThen hc2 fun b _ h => .inr h
  have hcv := ho.blk
  have hv' := ho2.blk
  refine ⟨(hb.chg h1 ?_).stored f v', ho2.int_chg hset ?_, ((ht.keep ((Chg.refl No wq).alloc o)).chg hc2 fun b _ h => ?_).chg hset fun b _ h => ?_, (h1.mono fun b _ h => h.elim .inl fun h => .inr (.inl h)).andThen hset fun b _ h => .inr (.inr h)⟩
  · rintro (h | h)
    · omega
    · have := hcv _ h; omega
  · intro k hk h
    have := hv' k hk
    have : k = g := h
    omega
  · have := hcv b h; omega
  · have : b = g := h; omega

/-- The state while a row is built in block W0.heap.size. -/
structure RB (p : Nat) (W0 wi : World) (rcv : Value) (coefs : List Int) (lo hi : Int) : Prop where
  b : Blk wi W0.heap.size 32 #[rcv, .int .i64 lo, .int .i64 hi]
  o : Own Rep.int wi No (W0.heap.size + 1) 3 rcv coefs
  tape : TapeOk wi p
  chg : Chg (Is p) W0 wi
theorem RB.push {p : Nat} {W0 wr wq w2 : World} {cv v' : Value} {xs xs' : List Int} {lo hi : Int} {o : Obj} (B : RB p W0 wr cv xs lo hi) (hp : p < W0.heap.size) (hc : Chg (Is p) wr wq) (ht : TapeOk wq p) (hc2 : Chg (fun b => cv.ownBlock = some b) (wq.alloc o) w2) (ho2 : Own Rep.int w2 No (W0.heap.size + 1) 3 v' xs') :
    RB p W0 (w2.setCell ⟨W0.heap.size, 0, none⟩ v') v' xs' lo hi := by
  obtain ⟨h1, h2, h3, h4⟩ := push_field 0 B.b hp (by omega) B.o hc ht hc2 ho2
  have hcv := B.o.blk
  exact ⟨by simpa using h1, h2, h3, B.chg.andThen h4 fun b hb h => by
    rcases h with h | h | h
    · exact h
    · have := hcv b h; omega
    · omega⟩
theorem PB.keep {p : Nat} {w wr w' : World} {cv rv : Value} {costs : List Int} {rows : List Row} (B : PB p w wr cv rv costs rows) (hp : p < w.heap.size) (hc : Chg (Is p) wr w') (ht : TapeOk w' p) : PB p w w' cv rv costs rows :=
  ⟨B.g6.chg hc (fun h => by have : w.heap.size = p := h; omega), B.g7.chg hc (fun h => by have : w.heap.size + 1 = p := h; omega), B.oc.int_chg hc (own_apart B.oc (by omega)), B.or.chg hc (fun b _ h => .inl (by have : b = p := h; omega)) (own_apart B.or (by omega)), ht, B.chg.trans hc⟩
/-- 'p.Rows = append(p.Rows, r)': what the new row is to be, and what is left. -/
theorem PB.rowRep {p : Nat} {w W0 wi : World} {cv rv rcv : Value} {costs coefs : List Int} {rows : List Row} {lo hi : Int} (B : PB p w W0 cv rv costs rows) (R : RB p W0 wi rcv coefs lo hi) (o : Obj) :
    Rep.row.rep (wi.alloc o) (fun b => (b < w.heap.size + 2 ∨ cv.ownBlock = some b) ∨ rv.ownBlock = some b) [rcv, .int .i64 lo, .int .i64 hi] ⟨coefs, lo, hi⟩ := by
  have h1 := B.oc.blk
  have h2 := B.or.blk
  have h3 := R.o.blk
  have hg := B.g7.lt
  have h4 := (R.o.keep ((Chg.refl No wi).alloc o)).int_any (Y := fun b => (b < w.heap.size + 2 ∨ cv.ownBlock = some b) ∨ rv.ownBlock = some b)
  obtain ⟨A, c, rfl, -, hs⟩ := h4.slc (Y := fun b => (b < w.heap.size + 2 ∨ cv.ownBlock = some b) ∨ rv.ownBlock = some b) (fun _ _ h => h) fun k hk h => by
    have := h3 k hk
    rcases h with (h | h) | h
    · omega
    · have := h1 k h; omega
    · have := h2 k h; omega
  exact row_rep (r := ⟨coefs, lo, hi⟩) hs
theorem PB.row {p : Nat} {w wr wq w2 : World} {cv v' rv : Value} {costs : List Int} {rows rows' : List Row} {o : Obj} (B : PB p w wr cv rv costs rows) (hp : p < w.heap.size) (hc : Chg (Is p) wr wq) (ht : TapeOk wq p)
    (hc2 : Chg (fun b => rv.ownBlock = some b) (wq.alloc o) w2) (ho2 : Own Rep.row w2 (fun b => b < w.heap.size + 2 ∨ cv.ownBlock = some b) (w.heap.size + 2) 32 v' rows') :
    PB p w (w2.setCell ⟨w.heap.size + 1, 1, none⟩ v') cv v' costs rows' := by
  have hset : Chg (Is (w.heap.size + 1)) w2 (w2.setCell ⟨w.heap.size + 1, 1, none⟩ v') := (Chg.refl (Is (w.heap.size + 1)) w2).setCell (p := ⟨w.heap.size + 1, 1, none⟩) (.inl is_) v'
  have hcv := B.oc.blk
  have hrv := B.or.blk
  have hv' := ho2.blk
  have h1 : Chg (fun b => b = p ∨ rv.ownBlock = some b) wr w2 := ((hc.mono fun b _ h => .inl h).alloc _).andThen hc2 fun b _ h => .inr h
  have h2 : Chg (fun b => (b = p ∨ rv.ownBlock = some b) ∨ b = w.heap.size + 1) wr (w2.setCell ⟨w.heap.size + 1, 1, none⟩ v') := (h1.mono fun b _ h => .inl h).andThen hset fun b _ h => .inr h
  refine ⟨B.g6.chg h2 ?_, ?_, B.oc.int_chg h2 ?_, ho2.chg hset (fun b _ h => .inl (by have : b = w.heap.size + 1 := h; omega)) ?_, ((ht.keep ((Chg.refl No wq).alloc o)).chg hc2 fun b _ h => ?_).chg hset fun b _ h => ?_, ?_⟩
  · rintro ((h | h) | h)
    · omega
    · have := hrv _ h; omega
    · omega
  · have := (B.g7.chg h1 (by rintro (h | h); · omega
                             · have := hrv _ h; omega)).stored 1 v'
    simpa using this
  · rintro k hk ((h | h) | h)
    · have := hcv k hk; omega
    · exact B.or.apart B.oc (by decide) h hk
    · have := hcv k hk; omega
  · intro k hk h
    have := hv' k hk
    have : k = w.heap.size + 1 := h
    omega
  · have := hrv b h; omega
  · have : b = w.heap.size + 1 := h; omega
  · exact B.chg.andThen h2 fun b hb h => by
      rcases h with (h | h) | h
      · exact h
      · have := hrv b h; omega
      · omega

def GoodCosts (most : Nat) (costs : List Int) : Prop := costs.length ≤ most ∧ ∀ x ∈ costs, 0 ≤ x ∧ x ≤ 10000
def GoodRow (n : Nat) (r : Row) : Prop := r.coefs.length = n ∧ (∀ x ∈ r.coefs, -2 ≤ x ∧ x ≤ 4) ∧ (-2 ≤ r.least ∧ r.least ≤ 4) ∧ (2 ≤ r.most ∧ r.most ≤ 9)
def GoodRows (n : Nat) (rows : List Row) : Prop := ∀ r ∈ rows, GoodRow n r

theorem PB.cells {p : Nat} {w wr : World} {cv rv : Value} {costs : List Int} {rows : List Row} (B : PB p w wr cv rv costs rows) :
    wr.cell? ⟨w.heap.size + 1, 0, none⟩ = some cv ∧ wr.cell? ⟨w.heap.size + 1, 1, none⟩ = some rv ∧ wr.cell? ⟨w.heap.size, 0, none⟩ = some (.slice none 0 0) ∧ wr.cell? ⟨w.heap.size, 1, none⟩ = some (.slice none 0 0) ∧ wr.frozen? ⟨w.heap.size, 0, none⟩ = false ∧ wr.frozen? ⟨w.heap.size, 1, none⟩ = false :=
  ⟨by rw [B.g7.cell]; rfl, by rw [B.g7.cell]; rfl, by rw [B.g6.cell]; rfl, by rw [B.g6.cell]; rfl, B.g6.frozen 0, B.g6.frozen 1⟩
structure ProgRet (p : Nat) (w w' : World) (cv rv : Value) (costs : List Int) (rows : List Row) : Prop where
  q0 : w'.cell? ⟨w.heap.size, 0, none⟩ = some cv
  q1 : w'.cell? ⟨w.heap.size, 1, none⟩ = some rv
  prog : ProgV (Is p) w' (.agg #[cv, rv]) ⟨costs, rows⟩
  tape : TapeOk w' p
  chg : Chg (Is p) w w'
theorem PB.done {p : Nat} {w wr : World} {cv rv : Value} {costs : List Int} {rows : List Row} (B : PB p w wr cv rv costs rows) (hp : p < w.heap.size) :
    ProgRet p w ((wr.setCell ⟨w.heap.size, 0, none⟩ cv).setCell ⟨w.heap.size, 1, none⟩ rv) cv rv costs rows := by
  have hb := (B.g6.stored 0 cv).stored 1 rv
  have hc : Chg (Is w.heap.size) wr ((wr.setCell ⟨w.heap.size, 0, none⟩ cv).setCell ⟨w.heap.size, 1, none⟩ rv) :=
    ((Chg.refl (Is w.heap.size) wr).setCell (p := ⟨w.heap.size, 0, none⟩) (.inl is_) cv).setCell (p := ⟨w.heap.size, 1, none⟩) (.inl is_) rv
  have h1 := B.oc.blk
  have h2 := B.or.blk
  have n1 : ∀ k, cv.ownBlock = some k → ¬ Is w.heap.size k := fun k hk h => by have := h1 k hk; have : k = w.heap.size := h; omega
  have n2 : ∀ k, rv.ownBlock = some k → ¬ Is w.heap.size k := fun k hk h => by have := h2 k hk; have : k = w.heap.size := h; omega
  refine ⟨by rw [hb.cell]; rfl, by rw [hb.cell]; rfl, ?_, B.tape.chg hc fun b _ h => by have : b = w.heap.size := h; omega, B.chg.andThen hc fun b hb h => by have : b = w.heap.size := h; omega⟩
  obtain ⟨A, c, e1, -, s1⟩ := (B.oc.int_chg hc n1).int_any.slc (X := Is p) (Y := Is p) (fun _ _ h => h) (own_apart B.oc (by omega))
  obtain ⟨A', c', e2, -, s2⟩ := (B.or.chg hc (fun b _ h => .inl (by have : b = w.heap.size := h; omega)) n2).slc (Y := Is p) (fun b _ h => .inl (by have : b = p := h; omega)) (own_apart B.or (by omega))
  exact ⟨A, _, c, A', _, c', by rw [e1, e2], s1, s2⟩
def GoodProg (most : Nat) (P : Prog) : Prop := GoodCosts most P.costs ∧ GoodRows P.costs.length P.rows ∧ P.rows.length ≤ 3
def SmallProg (most : Nat) (P : Prog) : Prop := P.costs.length ≤ most + 13 ∧ P.rows.length ≤ 4 ∧ ∀ r ∈ P.rows, r.coefs.length ≤ most + 1
theorem small_of {most : Nat} {costs costs' : List Int} {rows : List Row} (h1 : costs.length ≤ most) (h2 : GoodRows costs.length rows) (h3 : rows.length ≤ 3) (h4 : costs'.length ≤ costs.length + 13) : SmallProg most ⟨costs', rows⟩ :=
  ⟨by show costs'.length ≤ _; omega, by show rows.length ≤ _; omega, fun r hr => by have := (h2 r hr).1; omega⟩
theorem small_row {most : Nat} {costs : List Int} {rows : List Row} {r : Row} (h1 : costs.length ≤ most) (h2 : GoodRows costs.length rows) (h3 : rows.length ≤ 3) (h4 : r.coefs.length ≤ costs.length + 1) : SmallProg most ⟨costs, rows ++ [r]⟩ :=
  ⟨by show costs.length ≤ _; omega, by show (rows ++ [r]).length ≤ _; simp; omega, fun s hs => by
    rcases List.mem_append.1 hs with hs | hs
    · have := (h2 s hs).1; omega
    · rw [List.mem_singleton.1 hs]; omega⟩
def ProgPost (p most : Nat) (n : Int) (w : World) : Ending → World → Prop := Ret (fun w' v => ∃ P, ProgV (Is p) w' v P ∧ SmallProg most P ∧ (n ≤ 0 → GoodProg most P)) p w
theorem madeRep {W : World} {g k : Nat} {t : TypeId} {vs : List Int} {cs : Array Value} {X : Nat → Prop} (lo hi : Int) (h : Blk W g t cs) (hcs : cs = (vs.map (Value.int .i64)).toArray) (hX : ¬ X g) (hk : k = vs.length) : Rep.row.rep W X [.slice (some ⟨g, 0, none⟩) k k, .int .i64 lo, .int .i64 hi] ⟨vs, lo, hi⟩ :=
  row_rep (r := ⟨vs, lo, hi⟩) (ints_blk h vs hcs hX hk hk rfl)
/-- The rows' append: the new element lies outside what it must not lie in. -/
theorem PB.out {p : Nat} {w wr : World} {cv rv : Value} {costs : List Int} {rows : List Row} (B : PB p w wr cv rv costs rows) {g : Nat} (hg : wr.heap.size ≤ g) : ¬ ((g < w.heap.size + 2 ∨ cv.ownBlock = some g) ∨ rv.ownBlock = some g) := by
  have h1 := B.oc.blk
  have h2 := B.or.blk
  have := B.g7.lt
  rintro ((h | h) | h)
  · omega
  · have := h1 g h; omega
  · have := h2 g h; omega

set_option maxRecDepth 100000 in
set_option maxHeartbeats 8000000 in
theorem program_any (p : Nat) (most : Nat) (n : Int) (w : World) (h : TapeOk w p) (hn : most ≤ 1000) (hna : -1000000 ≤ n) (hnb : n ≤ 1000000) :
    Calls Try.prog 13 #[.pointer (some ⟨p, 0, none⟩), .int .i64 most, .int .i64 n] w (ProgPost p most n w) := by
  have HH := Lib.hid h; clear h
  have hlt := HH.out.lt
  go_enter Try.func13, Try.ntmps13
  go_wp2_with fail
  refine (range_any p _ _ _ (HH.out.keep (((Chg.refl _ w).alloc _).alloc _)) (by omega) (by omega) (by omega) (by omega)).mono ?_
  rintro e w1 ⟨v1, rfl, ⟨k, rfl, hx1, hx2⟩, ht, hc⟩
  obtain ⟨n1, rfl⟩ := Int.eq_ofNat_of_zero_le (hx2 (by omega)).1
  have hn1 : n1 ≤ most := by have := hx2 (by omega); omega
  clear hx1 hx2
  have b6 := ((Blk.made w 27 #[.slice none 0 0, .slice none 0 0]).chg ((Chg.refl No _).alloc _) no_).chg hc (fun e => by have : w.heap.size = p := e; omega)
  have b7 := (Blk.made (w.alloc (.cells #[.slice none 0 0, .slice none 0 0] 27)) 27 #[.slice none 0 0, .slice none 0 0]).chg hc (fun e => by have : (w.alloc _).heap.size = p := e; simp at this; omega)
  have P0 : PB p w w1 (.slice none 0 0) (.slice none 0 0) [] [] := ⟨b6, by simpa using b7, Own.nil, Own.nil, ht, (((Chg.refl _ w).alloc _).alloc _).trans hc⟩
  have HP0 := Lib.hid P0
  clear P0 b6 b7 ht hc
  go_wp2_with fail
  go_loopw [9] (fun i wr => ∃ (j : Nat) (cv : Value) (costs : List Int), i = .int .i64 j ∧ PB p w wr cv (.slice none 0 0) costs [] ∧ j ≤ n1 ∧ costs.length = j ∧ ∀ x ∈ costs, 0 ≤ x ∧ x ≤ 10000) (fun i _ => n1 - (intOf i).toNat)
  case atStart => exact ⟨0, _, [], rfl, HP0.out, by omega, rfl, by simp⟩
  case round =>
    obtain ⟨j, cv, costs, rfl, B, hj, hl, hx⟩ := hrel
    have c7 : wr.cell? ⟨w.heap.size + 1, 0, none⟩ = some cv := by rw [B.g7.cell]; rfl
    have HX := Lib.hid hx; clear hx
    have HL := Lib.hid hl; clear hl
    by_cases hlt1 : j < n1
    · go_wp2_with fail
      have hsz := B.g7.lt
      have tp0 : ∀ o, TapeOk (wr.alloc o).drew p := fun o => B.tape.keep (((Chg.refl No wr).alloc _).drew)
      have HB := Lib.hid B; clear B
      have HTP := Lib.hid tp0; clear tp0
      have hp7 : ¬ Is p (w.heap.size + 1) := fun e => by have : w.heap.size + 1 = p := e; omega
      have hpr : ¬ Is p wr.heap.size := fun e => by have : wr.heap.size = p := e; omega
      have HP7 := Lib.hid hp7; clear hp7
      have HPR := Lib.hid hpr; clear hpr
      go_region_law (first
        | (refine step_append_rep (r := Rep.int) (v := cv) (xs := costs) (base := w.heap.size + 2) (X := No) rfl 22 3 elemInt (.tmp 24) (.tmp 28) rfl rfl (HO.out _) ⟨_, 0, none⟩ 1 [.int .i64 x] x rfl (cell_one_new _ _ _) rfl hcl (hbase _) ?_; intro A' c' w2 ho2 hc2 hb2; have b72 := (H7.out.chg ((Chg.refl No _).alloc _) no_).chg hc2 (fun e => absurd ((HB.out.oc.blk _ e).1) (by omega)); have c72 : w2.cell? ⟨w.heap.size + 1, 0, none⟩ = some cv := (b72.cell 0); have f72 := b72.frozen 0; have H72 := Lib.hid b72; clear b72; have HO2 := Lib.hid ho2; clear ho2; have HC2 := Lib.hid hc2; clear hc2; have HB2 := Lib.hid hb2; clear hb2)
        | (go_simp; go_at_call 44; refine (pick_new p _ [0, 1, 2, 3, 5, 7, 10000] _ _ _ _ (HTP.out _) (Blk.made' wr _ _) rfl rfl (by decide) HPR.out).mono ?_; rintro e wq ⟨v1, rfl, ⟨x, rfl, hxm⟩, ht, hc⟩
           have b7q := HB.out.g7.chg ((((Chg.refl (Is p) wr).alloc _).drew).trans hc) HP7.out
           have c7q : wq.cell? ⟨w.heap.size + 1, 0, none⟩ = some cv := by rw [b7q.cell]; rfl
           have hsz7 := b7q.lt
           have HO := Lib.hid (fun o => HB.out.oc.int_chg (((((Chg.refl (Is p) wr).alloc _).drew).trans hc).alloc o) (own_apart HB.out.oc (p := p) (by omega)))
           have hcl : costs.length ≤ 1000000 := by have := HL.out; omega
           have hbase : ∀ o, w.heap.size + 2 ≤ (wq.alloc o).heap.size := fun o => by simp; omega
           have H7 := Lib.hid b7q; clear b7q
           have HXM := Lib.hid hxm; clear hxm
           have HT := Lib.hid ht; clear ht
           have HC := Lib.hid hc; clear hc))
      all_goals
        go_wp2_with fail
        go_roundw
        case rel => exact ⟨j + 1, _, costs ++ [x], by go_num, PB.cost HB.out hlt ((((Chg.refl (Is p) wr).alloc _).drew).trans HC.out) HT.out HC2.out HO2.out HB2.out, by omega, by simp [HL.out], fun y hy => (List.mem_append.1 hy).elim (HX.out y) fun h => by rw [List.mem_singleton.1 h]; have := HXM.out; simp at this; omega⟩
        case measure => simp [intOf]; omega
    · have hj1 : j = n1 := by omega
      subst hj1
      have HB := Lib.hid B; clear B
      clear c7
      go_wp2_with fail
      refine (next_any p _ _ HB.out.tape (by omega)).mono ?_
      rintro e w2 ⟨v1, rfl, ⟨k, rfl, hx1, hx2⟩, ht, hc⟩
      obtain ⟨m, rfl⟩ := Int.eq_ofNat_of_zero_le (hx2 (by omega)).1
      have hm : m ≤ 3 := by have := hx2 (by omega); omega
      clear hx1 hx2
      have HB1 := Lib.hid (HB.out.keep hlt hc ht); clear HB ht hc
      go_wp2_with fail
      go_loopw [10] (fun i wr => ∃ (q : Nat) (rv : Value) (rows : List Row), i = .int .i64 q ∧ PB p w wr cv rv costs rows ∧ q + rows.length ≤ 3 ∧ GoodRows j rows) (fun i _ => (intOf i).toNat)
      case atStart => exact ⟨m, _, [], rfl, HB1.out, by simpa using hm, by simp [GoodRows]⟩
      case round =>
        clear HB1
        obtain ⟨q, rv, rows, rfl, B, hq, hg⟩ := hrel
        have HG := Lib.hid hg; clear hg
        have HB := Lib.hid B; clear B
        by_cases hq0 : 0 < q
        · go_wp2_with fail
          refine (range_any p _ _ _ HB.out.tape (by omega) (by omega) (by omega) (by omega)).mono ?_
          rintro e w3 ⟨v1, rfl, ⟨lo, rfl, hx1, hx2⟩, ht, hc⟩
          have hlo := hx2 (by omega)
          have HB1 := Lib.hid (HB.out.keep hlt hc ht); clear ht hc hx1 hx2
          go_wp2_with fail
          refine (range_any p _ _ _ HB1.out.tape (by omega) (by omega) (by omega) (by omega)).mono ?_
          rintro e w4 ⟨v1, rfl, ⟨hi, rfl, hx1, hx2⟩, ht, hc⟩
          have hhi := hx2 (by omega)
          have HB2 := Lib.hid (HB1.out.keep hlt hc ht); clear ht hc hx1 hx2 HB HB1
          go_wp2_with fail
          go_loopw [12] (fun i wi => ∃ (u : Nat) (rcv : Value) (coefs : List Int), i = .int .i64 u ∧ RB p w4 wi rcv coefs lo hi ∧ u ≤ j ∧ coefs.length = u ∧ ∀ x ∈ coefs, -2 ≤ x ∧ x ≤ 4) (fun i _ => j - (intOf i).toNat)
          case atStart => exact ⟨0, _, [], rfl, ⟨Blk.made w4 _ _, Own.nil, HB2.out.tape.keep ((Chg.refl _ _).alloc _), (Chg.refl _ _).alloc _⟩, by omega, rfl, by simp⟩
          case round =>
            obtain ⟨u, rcv, coefs, rfl, R, hu, hul, hux⟩ := hrel
            have h4 := HB2.out.g7.lt
            have hp4 : p < w4.heap.size := by omega
            have hsz := R.b.lt
            have c11 := R.b.cell 0
            simp only [List.getElem?_toArray, List.getElem?_cons_zero] at c11
            have HUL := Lib.hid hul; clear hul
            have HUX := Lib.hid hux; clear hux
            by_cases huj : u < j
            · have HR := Lib.hid R; clear R
              have HTP := Lib.hid (fun o => HR.out.tape.keep (((Chg.refl No wr).alloc o).drew))
              have HP7 : Hid (¬ Is p w4.heap.size) := fun e => by have : w4.heap.size = p := e; omega
              have HPR : Hid (¬ Is p wr.heap.size) := fun e => by have : wr.heap.size = p := e; omega
              go_wp2_with fail
              go_region_law (first
                | (refine step_append_rep (r := Rep.int) (v := rcv) (xs := coefs) (base := w4.heap.size + 1) (X := No) rfl 22 3 elemInt (.tmp 48) (.tmp 52) rfl rfl (HO.out _) ⟨_, 0, none⟩ 1 [.int .i64 x] x rfl (cell_one_new _ _ _) rfl hcl (hbase _) ?_; intro A' c' w2 ho2 hc2 hb2; have b72 := (H7.out.chg ((Chg.refl No _).alloc _) no_).chg hc2 (fun e => absurd ((HR.out.o.blk _ e).1) (by omega)); have c72 : w2.cell? ⟨w4.heap.size, 0, none⟩ = some rcv := (b72.cell 0); have f72 := b72.frozen 0; have HO2 := Lib.hid ho2; clear b72 ho2; have HC2 := Lib.hid hc2; clear hc2; have HB2' := Lib.hid hb2; clear hb2)
                | (go_simp; go_at_call 44; refine (pick_new p _ [0, 1, 1, 2, 3, -1, -2, 4] _ _ _ _ (HTP.out _) (Blk.made' wr _ _) rfl rfl (by decide) HPR.out).mono ?_; rintro e wq ⟨v1, rfl, ⟨x, rfl, hxm⟩, ht, hc⟩
                   have b7q := HR.out.b.chg ((((Chg.refl (Is p) wr).alloc _).drew).trans hc) HP7.out
                   have c7q : wq.cell? ⟨w4.heap.size, 0, none⟩ = some rcv := by rw [b7q.cell]; rfl
                   have hsz7 := b7q.lt
                   have HO := Lib.hid (fun o => HR.out.o.int_chg (((((Chg.refl (Is p) wr).alloc _).drew).trans hc).alloc o) (own_apart HR.out.o (p := p) (by omega)))
                   have hcl : coefs.length ≤ 1000000 := by have := HUL.out; omega
                   have hbase : ∀ o, w4.heap.size + 1 ≤ (wq.alloc o).heap.size := fun o => by simp; omega
                   have H7 := Lib.hid b7q; clear b7q
                   have HXM := Lib.hid hxm; clear hxm
                   have HT := Lib.hid ht; clear ht
                   have HC := Lib.hid hc; clear hc))
              all_goals
                go_wp2_with fail
                go_roundw
                case rel => exact ⟨u + 1, _, coefs ++ [x], by go_num, RB.push HR.out hp4 ((((Chg.refl (Is p) wr).alloc _).drew).trans HC.out) HT.out HC2.out HO2.out, by omega, by simp [HUL.out], fun y hy => (List.mem_append.1 hy).elim (HUX.out y) fun h => by rw [List.mem_singleton.1 h]; have := HXM.out; simp at this; omega⟩
                case measure => simp [intOf]; omega
            · obtain rfl : u = j := by omega
              obtain ⟨RA, rc, rfl, -, -⟩ := R.o.form
              have d0 : wr.cell? ⟨w4.heap.size, 0, none⟩ = some (.slice RA coefs.length rc) := by rw [R.b.cell]; rfl
              have d1 : wr.cell? ⟨w4.heap.size, 1, none⟩ = some (.int .i64 lo) := by rw [R.b.cell]; rfl
              have d2 : wr.cell? ⟨w4.heap.size, 2, none⟩ = some (.int .i64 hi) := by rw [R.b.cell]; rfl
              have BW := HB2.out.keep hlt R.chg R.tape
              have d7 : wr.cell? ⟨w.heap.size + 1, 1, none⟩ = some rv := by rw [BW.g7.cell]; rfl
              have HOR := Lib.hid (fun o => BW.or.keep ((Chg.refl No wr).alloc o))
              have HREP := Lib.hid (fun o => PB.rowRep HB2.out R o)
              have hbw := BW.g7.lt
              have HBW := Lib.hid BW; clear BW
              have HR := Lib.hid R; clear R c11
              have hcl : rows.length ≤ 1000000 := by omega
              have hbase : ∀ o, w.heap.size + 2 ≤ (wr.alloc o).heap.size := fun o => by simp; omega
              go_wp2_with (at_builtin; refine wpList_append_rep (r := Rep.row) (v := rv) (xs := rows) (base := w.heap.size + 2) (X := fun b => b < w.heap.size + 2 ∨ cv.ownBlock = some b) rfl 25 32 elemRow (.tmp 56) (.tmp 58) rfl rfl (HOR.out _) ⟨wr.heap.size, 0, none⟩ 1 [.slice RA coefs.length rc, .int .i64 lo, .int .i64 hi] ⟨coefs, lo, hi⟩ rfl (cells_new _ _ _) (HREP.out _) hcl (hbase _) ?_; intro A' c' w2 ho2 hc2 hb2; have b72 := (HBW.out.g7.chg ((Chg.refl No _).alloc _) no_).chg hc2 (fun e => absurd ((HBW.out.or.blk _ e).1) (by omega)); have c72 : w2.cell? ⟨w.heap.size + 1, 1, none⟩ = some rv := (b72.cell 1); have f72 := b72.frozen 1; have HO2 := Lib.hid ho2; clear b72 ho2; have HC2 := Lib.hid hc2; clear hc2; have HB2' := Lib.hid hb2; clear hb2)
              go_roundw
              case rel => exact ⟨q - 1, _, rows ++ [⟨coefs, lo, hi⟩], by go_num, PB.row HB2.out hlt HR.out.chg HR.out.tape HC2.out HO2.out, by simp; omega, fun r hr => (List.mem_append.1 hr).elim (HG.out r) fun h => by rw [List.mem_singleton.1 h]; exact ⟨HUL.out, HUX.out, hlo, hhi⟩⟩
              case measure => simp [intOf]; omega
        · obtain rfl : q = 0 := by omega
          obtain ⟨CA, cc, rfl, -, -⟩ := HB.out.oc.form
          obtain ⟨RA, rc, rfl, -, -⟩ := HB.out.or.form
          have hcl0 : costs.length ≤ most := by have := HL.out; omega
          have h13 : rows.length ≤ 3 := by omega
          by_cases hn0 : 0 < n
          · go_wp2_with fail
            refine (one_any p _ _ HB.out.tape (by omega) (by omega)).mono ?_
            rintro e w3 ⟨v1, rfl, ⟨x, rfl⟩, ht, hc⟩
            have HB1 := Lib.hid (HB.out.keep hlt hc ht); clear ht hc HB
            cases x
            · have B9 := HB1.out
              obtain ⟨e0, e1, e2, e3, e4, e5⟩ := B9.cells
              have D := B9.done hlt
              have q0 := D.q0
              have q1 := D.q1
              have HD := Lib.hid D
              clear D B9
              have HQ0 := Lib.hid q0; clear q0
              have HQ1 := Lib.hid q1; clear q1
              go_wp2_with fail
              have q0 := HQ0.out
              have q1 := HQ1.out
              exact bodyPost_ret (by simp [results, Try.results13, go_sem, q0, q1]) rfl ⟨_, rfl, ⟨⟨costs, rows⟩, HD.out.prog, small_of hcl0 (by rw [HL.out]; exact HG.out) h13 (by omega), fun h => absurd h (by omega)⟩, HD.out.tape, HD.out.chg⟩
            · go_wp2_with fail
              refine (next_any p _ _ HB1.out.tape (by omega)).mono ?_
              rintro e w4 ⟨v1, rfl, ⟨k5, rfl, hx1, hx2⟩, ht, hc⟩
              obtain ⟨s5, rfl⟩ := Int.eq_ofNat_of_zero_le (hx2 (by omega)).1
              have hs5 : s5 < 5 := by have := hx2 (by omega); omega
              clear hx1 hx2
              have HB2 := Lib.hid (HB1.out.keep hlt hc ht); clear ht hc HB1
              have HB1 := HB2; clear HB2
              have hsm0 : ∀ costs' : List Int, costs'.length ≤ costs.length + 13 → SmallProg most ⟨costs', rows⟩ := fun costs' h => small_of hcl0 (by rw [HL.out]; exact HG.out) h13 h
              have hsm1 : ∀ r : Row, r.coefs.length ≤ costs.length + 1 → SmallProg most ⟨costs, rows ++ [r]⟩ := fun r h => small_row hcl0 (by rw [HL.out]; exact HG.out) h13 h
              have HS0 := Lib.hid hsm0; clear hsm0
              have HS1 := Lib.hid hsm1; clear hsm1
              rcases s5 with _ | _ | _ | _ | _ | s5
              · have hsz := HB1.out.g7.lt
                have c7 : w4.cell? ⟨w.heap.size + 1, 0, none⟩ = some (.slice CA costs.length cc) := by rw [HB1.out.g7.cell]; rfl
                have HTP := Lib.hid (fun o => HB1.out.tape.keep (((Chg.refl No w4).alloc o).drew))
                have HP7 : Hid (¬ Is p (w.heap.size + 1)) := fun e => by have : w.heap.size + 1 = p := e; omega
                have HPR : Hid (¬ Is p w4.heap.size) := fun e => by have : w4.heap.size = p := e; omega
                go_wp2_with fail
                go_region_law (first
                  | (refine step_append_rep (r := Rep.int) (v := .slice CA costs.length cc) (xs := costs) (base := w.heap.size + 2) (X := No) rfl 22 3 elemInt (.tmp 82) (.tmp 86) rfl rfl (HO.out _) ⟨_, 0, none⟩ 1 [.int .i64 x] x rfl (cell_one_new _ _ _) rfl hcl (hbase _) ?_; intro A' c' w2 ho2 hc2 hb2; have b72 := (H7.out.chg ((Chg.refl No _).alloc _) no_).chg hc2 (fun e => absurd ((HB1.out.oc.blk _ e).1) (by omega)); have c72 : w2.cell? ⟨w.heap.size + 1, 0, none⟩ = some (.slice CA costs.length cc) := (b72.cell 0); have f72 := b72.frozen 0; have HO2 := Lib.hid ho2; clear b72 ho2; have HC2 := Lib.hid hc2; clear hc2; have HB2 := Lib.hid hb2; clear hb2)
                  | (go_simp; go_at_call 44; refine (pick_new p _ [-1, 10000, 10001] _ _ _ _ (HTP.out _) (Blk.made' w4 _ _) rfl rfl (by decide) HPR.out).mono ?_; rintro e wq ⟨v1, rfl, ⟨x, rfl, hxm⟩, ht, hc⟩
                     have b7q := HB1.out.g7.chg ((((Chg.refl (Is p) w4).alloc _).drew).trans hc) HP7.out
                     have c7q : wq.cell? ⟨w.heap.size + 1, 0, none⟩ = some (.slice CA costs.length cc) := by rw [b7q.cell]; rfl
                     have hsz7 := b7q.lt
                     have HO := Lib.hid (fun o => HB1.out.oc.int_chg (((((Chg.refl (Is p) w4).alloc _).drew).trans hc).alloc o) (own_apart HB1.out.oc (p := p) (by omega)))
                     have hcl : costs.length ≤ 1000000 := by omega
                     have hbase : ∀ o, w.heap.size + 2 ≤ (wq.alloc o).heap.size := fun o => by simp; omega
                     have H7 := Lib.hid b7q; clear b7q
                     have HXM := Lib.hid hxm; clear hxm
                     have HT := Lib.hid ht; clear ht
                     have HC := Lib.hid hc; clear hc))
                all_goals
                  have B9 := PB.cost HB1.out hlt ((((Chg.refl (Is p) w4).alloc _).drew).trans HC.out) HT.out HC2.out HO2.out HB2.out
                  obtain ⟨e0, e1, e2, e3, e4, e5⟩ := B9.cells
                  have D := B9.done hlt
                  have q0 := D.q0
                  have q1 := D.q1
                  have HD := Lib.hid D
                  clear D B9
                  have HQ0 := Lib.hid q0; clear q0
                  have HQ1 := Lib.hid q1; clear q1
                  go_wp2_with fail
                  have q0 := HQ0.out
                  have q1 := HQ1.out
                  exact bodyPost_ret (by simp [results, Try.results13, go_sem, q0, q1]) rfl ⟨_, rfl, ⟨⟨costs ++ [x], rows⟩, HD.out.prog, HS0.out _ (by simp), fun h => absurd h (by omega)⟩, HD.out.tape, HD.out.chg⟩
              · have hmk : ∀ W : World, (Instr.makeSlice 22 (.int .i64 ↑j) (.int .i64 ↑j)).run Try.prog W = .ok (.slice (some ⟨W.heap.size, 0, none⟩) j j) (W.alloc (.cells (zeros j) 3)) := run_makeInts (bytes := 8) Try.underlying22 (by kernel_rfl) (by omega) _ j rfl (by omega)
                have hsz := HB1.out.g7.lt
                obtain ⟨-, c7, -⟩ := HB1.out.cells
                have hcl : rows.length ≤ 1000000 := by omega
                have tok1 : True := trivial
                go_wp2_with fail
                go_region_law (first
                  | (refine step_append_rep (r := Rep.row) (v := .slice RA rows.length rc) (xs := rows) (base := w.heap.size + 2) (X := fun b => b < w.heap.size + 2 ∨ (Value.slice CA costs.length cc).ownBlock = some b) rfl 25 32 elemRow (.tmp 92) (.tmp 100) rfl rfl (HBb.out.or.keep ((Chg.refl No wb).alloc _)) ⟨wb.heap.size, 0, none⟩ 1 [.slice (some ⟨_, 0, none⟩) j j, .int .i64 xa, .int .i64 xb] ⟨List.replicate j 0, xa, xb⟩ rfl (cells_new _ _ _) (madeRep (X := fun b => (b < w.heap.size + 2 ∨ (Value.slice CA costs.length cc).ownBlock = some b) ∨ (Value.slice RA rows.length rc).ownBlock = some b) xa xb (HMb.out.1.chg ((Chg.refl No _).alloc _) no_) rfl (HB1.out.out HMb.out.2) (by simp)) hcl (HSA.out _) ?_; intro A' c' w2 ho2 hc2 hb2; have b72 := (HBb.out.g7.chg ((Chg.refl No wb).alloc _) no_).chg hc2 (fun e => absurd ((HB1.out.or.blk _ e).1) (by omega)); have c72 : w2.cell? ⟨w.heap.size + 1, 1, none⟩ = some (.slice RA rows.length rc) := (b72.cell 1); have f72 := b72.frozen 1; have HO2 := Lib.hid ho2; clear b72 ho2; have HC2 := Lib.hid hc2; clear hc2; have HB2 := Lib.hid hb2; clear hb2)
                  | (refine step_append_rep (r := Rep.row) (v := .slice RA rows.length rc) (xs := rows) (base := w.heap.size + 2) (X := fun b => b < w.heap.size + 2 ∨ (Value.slice CA costs.length cc).ownBlock = some b) rfl 25 32 elemRow (.tmp 92) (.tmp 100) rfl rfl (HBb.out.or.keep (((Chg.refl No wb).alloc _).alloc _)) ⟨wb.heap.size + 1, 0, none⟩ 1 [.slice (some ⟨_, 0, none⟩) j j, .int .i64 xa, .int .i64 xb] ⟨List.replicate j 0, xa, xb⟩ rfl (HCNb.out _ _) (madeRep (X := fun b => (b < w.heap.size + 2 ∨ (Value.slice CA costs.length cc).ownBlock = some b) ∨ (Value.slice RA rows.length rc).ownBlock = some b) xa xb ((Blk.made wb 3 (zeros j)).chg ((Chg.refl No _).alloc _) no_) rfl (HB1.out.out HSZ.out) (by simp)) hcl (HSB.out _ _) ?_; intro A' c' w2 ho2 hc2 hb2; have b72 := (HBb.out.g7.chg (((Chg.refl No wb).alloc _).alloc _) no_).chg hc2 (fun e => absurd ((HB1.out.or.blk _ e).1) (by omega)); have c72 : w2.cell? ⟨w.heap.size + 1, 1, none⟩ = some (.slice RA rows.length rc) := (b72.cell 1); have f72 := b72.frozen 1; have HO2 := Lib.hid ho2; clear b72 ho2; have HC2 := Lib.hid hc2; clear hc2; have HB2 := Lib.hid hb2; clear hb2)
                  | (go_simp; go_at_call 45; have _t := tok1; refine (wild_any p _ (HB1.out.tape.keep (by first | exact (Chg.refl _ _).drew | exact ((Chg.refl _ _).alloc _).drew))).mono ?_; rintro e wa ⟨v1, rfl, ⟨xa, rfl, -⟩, ht, hc⟩
                     clear tok1
                     have hca : Chg (Is p) w4 wa := by first | exact (Chg.refl _ _).drew.trans hc | exact (((Chg.refl _ _).alloc _).drew).trans hc
                     have HBa := Lib.hid (HB1.out.keep hlt hca ht)
                     have HSa := Lib.hid hca.size
                     (try have HMa : Hid (Blk wa w4.heap.size 3 (zeros j) ∧ w4.heap.size ≤ w4.heap.size) := ⟨(Blk.made' w4 3 (zeros j)).chg hc (fun e => by have : w4.heap.size = p := e; omega), Nat.le_refl _⟩)
                     have c7a := HBa.out.cells.2.1
                     have hsza := HBa.out.g7.lt
                     clear hca ht hc)
                  | (go_simp; go_at_call 45; refine (wild_any p _ (HBa.out.tape.keep (by first | exact Chg.refl _ _ | exact (Chg.refl _ _).alloc _))).mono ?_; rintro e wb ⟨v1, rfl, ⟨xb, rfl, -⟩, ht, hc⟩
                     have hcb : Chg (Is p) wa wb := by first | exact hc | exact ((Chg.refl _ _).alloc _).trans hc
                     have HBb := Lib.hid (HBa.out.keep hlt hcb ht)
                     have HSZ : Hid (w4.heap.size ≤ wb.heap.size) := by have := HSa.out; have := hcb.size; show w4.heap.size ≤ wb.heap.size; omega
                     (try have HMb : Hid (Blk wb w4.heap.size 3 (zeros j) ∧ w4.heap.size ≤ w4.heap.size) := ⟨HMa.out.1.chg hcb (fun e => by have : w4.heap.size = p := e; omega), Nat.le_refl _⟩)
                     (try have HMb : Hid (Blk wb wa.heap.size 3 (zeros j) ∧ w4.heap.size ≤ wa.heap.size) := ⟨(Blk.made wa 3 (zeros j)).chg hc (fun e => by have : wa.heap.size = p := e; omega), HSa.out⟩)
                     have c7b := HBb.out.cells.2.1
                     have hszb := HBb.out.g7.lt
                     have HSA : Hid (∀ o, w.heap.size + 2 ≤ (wb.alloc o).heap.size) := fun o => by simp only [World.size_alloc]; omega
                     have HSB : Hid (∀ o o', w.heap.size + 2 ≤ ((wb.alloc o).alloc o').heap.size) := fun o o' => by simp only [World.size_alloc]; omega
                     have HCNb : Hid (∀ (o : Obj) (cs : List Value), ∀ j' u, cs[j']? = some u → ((wb.alloc o).alloc (.cells cs.toArray 32)).cell? ((⟨wb.heap.size + 1, 0, none⟩ : Addr).add j') = some u) := fun o cs => by have := cells_new (wb.alloc o) cs 32; rwa [World.size_alloc] at this
                     have c7bb : ∀ o o', ((wb.alloc o).alloc o').cell? ⟨w.heap.size + 1, 1, none⟩ = some (.slice RA rows.length rc) := fun o o' => (HBb.out.g7.chg (((Chg.refl No wb).alloc o).alloc o') no_).cell 1
                     clear hcb ht hc))
                all_goals
                  clear hmk
                  first
                    | (have B9 := PB.row HBb.out hlt (Chg.refl _ _) HBb.out.tape HC2.out HO2.out
                       have H9 := Lib.hid B9; clear B9)
                    | (have B9 := PB.row (wq := wb.alloc (.cells (zeros j) 3)) HBb.out hlt ((Chg.refl _ _).alloc _) (HBb.out.tape.keep ((Chg.refl _ _).alloc _)) HC2.out HO2.out
                       have H9 := Lib.hid B9; clear B9)
                  clear c7bb
                  have B9 := H9.out
                  obtain ⟨e0, e1, e2, e3, e4, e5⟩ := B9.cells
                  have D := B9.done hlt
                  have q0 := D.q0
                  have q1 := D.q1
                  have HD := Lib.hid D
                  clear D B9
                  have HQ0 := Lib.hid q0; clear q0
                  have HQ1 := Lib.hid q1; clear q1
                  go_wp2_with fail
                  have q0 := HQ0.out
                  have q1 := HQ1.out
                  exact bodyPost_ret (by simp [results, Try.results13, go_sem, q0, q1]) rfl ⟨_, rfl, ⟨⟨costs, rows ++ [⟨List.replicate j 0, xa, xb⟩]⟩, HD.out.prog, HS1.out _ (by simp [HL.out]), fun h => absurd h (by omega)⟩, HD.out.tape, HD.out.chg⟩
              · have hmk : ∀ W : World, (Instr.makeSlice 22 (.int .i64 (↑j + 1)) (.int .i64 (↑j + 1))).run Try.prog W = .ok (.slice (some ⟨W.heap.size, 0, none⟩) (j + 1) (j + 1)) (W.alloc (.cells (zeros (j + 1)) 3)) := run_makeInts (bytes := 8) Try.underlying22 (by kernel_rfl) (by omega) _ (j + 1) (by omega) (by omega)
                have hsz := HB1.out.g7.lt
                obtain ⟨-, c7, -⟩ := HB1.out.cells
                have HOR := Lib.hid (fun o o' => HB1.out.or.keep ((((Chg.refl No w4).alloc o).alloc o').drew))
                have HREP := Lib.hid (fun o' => madeRep (X := fun b => (b < w.heap.size + 2 ∨ (Value.slice CA costs.length cc).ownBlock = some b) ∨ (Value.slice RA rows.length rc).ownBlock = some b) 0 0 (((Blk.made w4 3 (zeros (j + 1))).chg ((Chg.refl No _).alloc o') no_).chg (Chg.refl No _).drew no_) rfl (HB1.out.out (Nat.le_refl _)) (by simp : j + 1 = (List.replicate (j + 1) (0 : Int)).length))
                have hcl : rows.length ≤ 1000000 := by omega
                have hbase : ∀ o o', w.heap.size + 2 ≤ ((w4.alloc o).alloc o').drew.heap.size := fun o o' => by simp; omega
                have H7 := Lib.hid (fun o o' => HB1.out.g7.chg ((((Chg.refl No w4).alloc o).alloc o').drew) no_)
                go_wp2_with fail
                have c7b : ∀ o o', ((w4.alloc o).alloc o').cell? ⟨w.heap.size + 1, 1, none⟩ = some (.slice RA rows.length rc) := fun o o' => (H7.out o o').cell 1
                have hw1 : IntKind.i64.wrap ((j : Int) + 1) = (j : Int) + 1 := IntWalk.i64_in _ (by omega)
                go_region_law (first
                  | (refine step_append_rep (r := Rep.row) (v := .slice RA rows.length rc) (xs := rows) (base := w.heap.size + 2) (X := fun b => b < w.heap.size + 2 ∨ (Value.slice CA costs.length cc).ownBlock = some b) rfl 25 32 elemRow (.tmp 106) (.tmp 111) rfl rfl (HOR.out _ _) ⟨w4.heap.size + 1, 0, none⟩ 1 [.slice (some ⟨w4.heap.size, 0, none⟩) (j + 1) (j + 1), .int .i64 0, .int .i64 0] ⟨_, 0, 0⟩ rfl (cells_new' _ _ _ _ (by simp)) (HREP.out _) hcl (hbase _ _) ?_; intro A' c' w2 ho2 hc2 hb2; have b72 := (H7.out _ _).chg hc2 (fun e => absurd ((HB1.out.or.blk _ e).1) (by omega)); have c72 : w2.cell? ⟨w.heap.size + 1, 1, none⟩ = some (.slice RA rows.length rc) := (b72.cell 1); have f72 := b72.frozen 1; have HO2 := Lib.hid ho2; clear b72 ho2; have HC2 := Lib.hid hc2; clear hc2; have HB2 := Lib.hid hb2; clear hb2))
                all_goals
                  clear hmk hw1
                  have B9 := PB.row (wq := (w4.alloc _).drew) HB1.out hlt (((Chg.refl (Is p) w4).alloc _).drew) (HB1.out.tape.keep (((Chg.refl No w4).alloc _).drew)) HC2.out HO2.out
                  obtain ⟨e0, e1, e2, e3, e4, e5⟩ := B9.cells
                  have D := B9.done hlt
                  have q0 := D.q0
                  have q1 := D.q1
                  have HD := Lib.hid D
                  clear D B9
                  have HQ0 := Lib.hid q0; clear q0
                  have HQ1 := Lib.hid q1; clear q1
                  go_wp2_with fail
                  have q0 := HQ0.out
                  have q1 := HQ1.out
                  exact bodyPost_ret (by simp [results, Try.results13, go_sem, q0, q1]) rfl ⟨_, rfl, ⟨⟨costs, rows ++ [⟨List.replicate (j + 1) 0, 0, 0⟩]⟩, HD.out.prog, HS1.out _ (by simp [HL.out]), fun h => absurd h (by omega)⟩, HD.out.tape, HD.out.chg⟩
              · have hmk : ∀ W : World, (Instr.makeSlice 22 (.int .i64 ↑j) (.int .i64 ↑j)).run Try.prog W = .ok (.slice (some ⟨W.heap.size, 0, none⟩) j j) (W.alloc (.cells (zeros j) 3)) := run_makeInts (bytes := 8) Try.underlying22 (by kernel_rfl) (by omega) _ j rfl (by omega)
                have hsz := HB1.out.g7.lt
                obtain ⟨-, c7, -⟩ := HB1.out.cells
                have hcl : rows.length ≤ 1000000 := by omega
                by_cases hj0 : 0 < j
                · have HTP := Lib.hid (fun o o' => HB1.out.tape.keep (((Chg.refl No w4).alloc o).alloc o'))
                  have HPR : Hid (¬ Is p (w4.heap.size + 1)) := fun e => by have : w4.heap.size + 1 = p := e; omega
                  have HBM : Hid (∀ cs, Blk ((w4.alloc (.cells (zeros j) 3)).alloc (.cells cs 3)) (w4.heap.size + 1) 3 cs) := fun cs => by simpa using Blk.made (w4.alloc (.cells (zeros j) 3)) 3 cs
                  go_wp2_with fail
                  refine (pick_new p _ [10000, 10001, -10000, -10001] _ _ _ _ (HTP.out _ _) (HBM.out _) rfl rfl (by decide) HPR.out).mono ?_
                  rintro e wq ⟨v1, rfl, ⟨x, rfl, hxm⟩, ht, hc⟩
                  have hc0 := (((Chg.refl (Is p) w4).alloc _).alloc _).trans hc
                  have bm := ((Blk.made w4 3 (zeros j)).chg ((Chg.refl No _).alloc _) no_).chg hc (fun e => by have : w4.heap.size = p := e; omega)
                  have cm : wq.cell? ⟨w4.heap.size, 0, none⟩ = some (.int .i64 0) := by
                    rw [bm.cell, zeros]
                    simp [hj0]
                  have fm := bm.frozen 0
                  have hset : Chg (Is w4.heap.size) wq (wq.setCell ⟨w4.heap.size, 0, none⟩ (.int .i64 x)) := (Chg.refl (Is w4.heap.size) wq).setCell (p := ⟨w4.heap.size, 0, none⟩) (.inl is_) _
                  have bs := bm.stored 0 (.int .i64 x)
                  have hc9 : Chg (Is p) w4 (wq.setCell ⟨w4.heap.size, 0, none⟩ (.int .i64 x)) := hc0.andThen hset fun b hb h => by have : b = w4.heap.size := h; omega
                  have ht9 : TapeOk (wq.setCell ⟨w4.heap.size, 0, none⟩ (.int .i64 x)) p := ht.chg hset fun b hb h => by have : b = w4.heap.size := h; omega
                  have PB9 := HB1.out.keep hlt hc9 ht9
                  have c7n : wq.cell? ⟨w.heap.size + 1, 1, none⟩ = some (.slice RA rows.length rc) := (HB1.out.keep hlt hc0 ht).cells.2.1
                  have hszn := PB9.g7.lt
                  have hne1 : ¬ w4.heap.size = w.heap.size + 1 := by omega
                  have hne2 : ¬ w.heap.size + 1 = w4.heap.size := by omega
                  have hszq := (HB1.out.keep hlt hc0 ht).g7.lt
                  have HREP := Lib.hid (fun o' => madeRep (X := fun b => (b < w.heap.size + 2 ∨ (Value.slice CA costs.length cc).ownBlock = some b) ∨ (Value.slice RA rows.length rc).ownBlock = some b) (vs := (List.replicate j 0).set 0 x) 0 1000000 (bs.chg ((Chg.refl No _).alloc o') no_) (zeros_set j 0 x) (HB1.out.out (Nat.le_refl _)) (by simp : j = ((List.replicate j (0 : Int)).set 0 x).length))
                  have HOR := Lib.hid (fun o => PB9.or.keep ((Chg.refl No (wq.setCell ⟨w4.heap.size, 0, none⟩ (.int .i64 x))).alloc o))
                  have H6 := Lib.hid (fun o => PB9.g6.chg ((Chg.refl No (wq.setCell ⟨w4.heap.size, 0, none⟩ (.int .i64 x))).alloc o) no_)
                  have H7 := Lib.hid (fun o => PB9.g7.chg ((Chg.refl No (wq.setCell ⟨w4.heap.size, 0, none⟩ (.int .i64 x))).alloc o) no_)
                  have hbase : ∀ o, w.heap.size + 2 ≤ ((wq.setCell ⟨w4.heap.size, 0, none⟩ (.int .i64 x)).alloc o).heap.size := fun o => by simp only [World.size_alloc]; omega
                  have HCN : Hid (∀ cs : List Value, ∀ j u, cs[j]? = some u → ((wq.setCell ⟨w4.heap.size, 0, none⟩ (.int .i64 x)).alloc (.cells cs.toArray 32)).cell? ((⟨wq.heap.size, 0, none⟩ : Addr).add j) = some u) := fun cs => by have := cells_new (wq.setCell ⟨w4.heap.size, 0, none⟩ (.int .i64 x)) cs 32; rwa [World.size_setCell] at this
                  have H9 := Lib.hid PB9
                  have HC9 := Lib.hid hc9
                  have HT9 := Lib.hid ht9
                  have HBASE := Lib.hid hbase
                  clear PB9 hc9 ht9 bs hset bm hc0 ht hc hxm hmk hbase
                  go_wp2_with (at_builtin; refine wpList_append_rep (r := Rep.row) (v := .slice RA rows.length rc) (xs := rows) (base := w.heap.size + 2) (X := fun b => b < w.heap.size + 2 ∨ (Value.slice CA costs.length cc).ownBlock = some b) rfl 25 32 elemRow (.tmp 126) (.tmp 129) rfl rfl (HOR.out _) ⟨wq.heap.size, 0, none⟩ 1 [.slice (some ⟨w4.heap.size, 0, none⟩) j j, .int .i64 0, .int .i64 1000000] ⟨_, 0, 1000000⟩ rfl (HCN.out _) (HREP.out _) hcl (HBASE.out _) ?_; intro A' c' w2 ho2 hc2 hb2; have b72 := (H7.out _).chg hc2 (fun e => absurd ((HB1.out.or.blk _ e).1) (by omega)); have c72 : w2.cell? ⟨w.heap.size + 1, 1, none⟩ = some (.slice RA rows.length rc) := (b72.cell 1); have f72 := b72.frozen 1; have c70 : w2.cell? ⟨w.heap.size + 1, 0, none⟩ = some (.slice CA costs.length cc) := b72.cell 0; have b62 := (H6.out _).chg hc2 (fun e => absurd ((HB1.out.or.blk _ e).1) (by omega)); have e2 : w2.cell? ⟨w.heap.size, 0, none⟩ = some (.slice none 0 0) := b62.cell 0; have e3 : w2.cell? ⟨w.heap.size, 1, none⟩ = some (.slice none 0 0) := b62.cell 1; have e4 := b62.frozen 0; have e5 := b62.frozen 1; clear b62; have HO2 := Lib.hid ho2; clear b72 ho2; have HC2 := Lib.hid hc2; clear hc2; have HB2 := Lib.hid hb2; clear hb2)
                  have HD := Lib.hid (PB.done (PB.row HB1.out hlt HC9.out HT9.out HC2.out HO2.out) hlt)
                  have q0 := HD.out.q0
                  have q1 := HD.out.q1
                  exact bodyPost_ret (by simp [results, Try.results13, go_sem, q0, q1]) rfl ⟨_, rfl, ⟨⟨costs, rows ++ [⟨(List.replicate j 0).set 0 x, 0, 1000000⟩]⟩, HD.out.prog, HS1.out _ (by simp [HL.out]), fun h => absurd h (by omega)⟩, HD.out.tape, HD.out.chg⟩
                · have HREP := Lib.hid (fun o' => madeRep (X := fun b => (b < w.heap.size + 2 ∨ (Value.slice CA costs.length cc).ownBlock = some b) ∨ (Value.slice RA rows.length rc).ownBlock = some b) (vs := List.replicate j 0) 0 1000000 ((Blk.made w4 3 (zeros j)).chg ((Chg.refl No _).alloc o') no_) rfl (HB1.out.out (Nat.le_refl _)) (by simp : j = (List.replicate j (0 : Int)).length))
                  have HOR := Lib.hid (fun o => HB1.out.or.keep (((Chg.refl No w4).alloc (.cells (zeros j) 3)).alloc o))
                  have H7 := Lib.hid (fun o => HB1.out.g7.chg (((Chg.refl No w4).alloc (.cells (zeros j) 3)).alloc o) no_)
                  have H6 := Lib.hid (fun o => HB1.out.g6.chg (((Chg.refl No w4).alloc (.cells (zeros j) 3)).alloc o) no_)
                  have HBASE : Hid (∀ o, w.heap.size + 2 ≤ ((w4.alloc (.cells (zeros j) 3)).alloc o).heap.size) := fun o => by simp only [World.size_alloc]; omega
                  have HCN : Hid (∀ cs : List Value, ∀ j' u, cs[j']? = some u → ((w4.alloc (.cells (zeros j) 3)).alloc (.cells cs.toArray 32)).cell? ((⟨w4.heap.size + 1, 0, none⟩ : Addr).add j') = some u) := fun cs => by have := cells_new (w4.alloc (.cells (zeros j) 3)) cs 32; rwa [World.size_alloc] at this
                  go_wp2_with (at_builtin; refine wpList_append_rep (r := Rep.row) (v := .slice RA rows.length rc) (xs := rows) (base := w.heap.size + 2) (X := fun b => b < w.heap.size + 2 ∨ (Value.slice CA costs.length cc).ownBlock = some b) rfl 25 32 elemRow (.tmp 126) (.tmp 129) rfl rfl (HOR.out _) ⟨w4.heap.size + 1, 0, none⟩ 1 [.slice (some ⟨w4.heap.size, 0, none⟩) j j, .int .i64 0, .int .i64 1000000] ⟨_, 0, 1000000⟩ rfl (HCN.out _) (HREP.out _) hcl (HBASE.out _) ?_; intro A' c' w2 ho2 hc2 hb2; have b72 := (H7.out _).chg hc2 (fun e => absurd ((HB1.out.or.blk _ e).1) (by omega)); have c72 : w2.cell? ⟨w.heap.size + 1, 1, none⟩ = some (.slice RA rows.length rc) := (b72.cell 1); have f72 := b72.frozen 1; have c70 : w2.cell? ⟨w.heap.size + 1, 0, none⟩ = some (.slice CA costs.length cc) := b72.cell 0; have b62 := (H6.out _).chg hc2 (fun e => absurd ((HB1.out.or.blk _ e).1) (by omega)); have e2 : w2.cell? ⟨w.heap.size, 0, none⟩ = some (.slice none 0 0) := b62.cell 0; have e3 : w2.cell? ⟨w.heap.size, 1, none⟩ = some (.slice none 0 0) := b62.cell 1; have e4 := b62.frozen 0; have e5 := b62.frozen 1; clear b62; have HO2 := Lib.hid ho2; clear b72 ho2; have HC2 := Lib.hid hc2; clear hc2; have HB2 := Lib.hid hb2; clear hb2)
                  have HD := Lib.hid (PB.done (PB.row (wq := w4.alloc (.cells (zeros j) 3)) HB1.out hlt ((Chg.refl (Is p) w4).alloc _) (HB1.out.tape.keep ((Chg.refl No w4).alloc _)) HC2.out HO2.out) hlt)
                  have q0 := HD.out.q0
                  have q1 := HD.out.q1
                  exact bodyPost_ret (by simp [results, Try.results13, go_sem, q0, q1]) rfl ⟨_, rfl, ⟨⟨costs, rows ++ [⟨List.replicate j 0, 0, 1000000⟩]⟩, HD.out.prog, HS1.out _ (by simp [HL.out]), fun h => absurd h (by omega)⟩, HD.out.tape, HD.out.chg⟩
              · have hcl0' := hcl0
                go_wp2_with fail
                go_loopw [14] (fun i wr => ∃ (u : Nat) (cv' : Value) (costs' : List Int), i = .int .i64 u ∧ PB p w wr cv' (.slice RA rows.length rc) costs' rows ∧ u ≤ 13 ∧ costs'.length = costs.length + u) (fun i _ => 13 - (intOf i).toNat)
                case atStart => exact ⟨0, _, costs, rfl, HB1.out, by omega, rfl⟩
                case round =>
                  clear HB1
                  obtain ⟨u, cv', costs', rfl, B, hu, hul⟩ := hrel
                  obtain ⟨CA', cc', rfl, -, -⟩ := B.oc.form
                  have HUL := Lib.hid hul; clear hul
                  have hsz := B.g7.lt
                  have c7 := B.cells.1
                  have HB := Lib.hid B; clear B
                  by_cases hu1 : u < 13
                  · have HO := Lib.hid (fun o => HB.out.oc.keep ((Chg.refl No wr).alloc o))
                    have H7 := Lib.hid (fun o => HB.out.g7.chg ((Chg.refl No wr).alloc o) no_)
                    have hcl : costs'.length ≤ 1000000 := by have := HUL.out; omega
                    have hbase : ∀ o, w.heap.size + 2 ≤ (wr.alloc o).heap.size := fun o => by simp; omega
                    go_wp2_with (at_builtin; refine wpList_append_rep (r := Rep.int) (v := .slice CA' costs'.length cc') (xs := costs') (base := w.heap.size + 2) (X := No) rfl 22 3 elemInt (.tmp 75) (.tmp 76) rfl rfl (HO.out _) ⟨wr.heap.size, 0, none⟩ 1 [.int .i64 1] 1 rfl (cell_one_new _ _ _) rfl hcl (hbase _) ?_; intro A' c' w2 ho2 hc2 hb2; have b72 := (H7.out _).chg hc2 (fun e => absurd ((HB.out.oc.blk _ e).1) (by omega)); have c72 : w2.cell? ⟨w.heap.size + 1, 0, none⟩ = some (.slice CA' costs'.length cc') := (b72.cell 0); have f72 := b72.frozen 0; have HO2 := Lib.hid ho2; clear b72 ho2; have HC2 := Lib.hid hc2; clear hc2; have HB2 := Lib.hid hb2; clear hb2)
                    go_roundw
                    case rel => exact ⟨u + 1, _, costs' ++ [1], by go_num, PB.cost HB.out hlt (Chg.refl _ _) HB.out.tape HC2.out HO2.out HB2.out, by omega, by have := HUL.out; simp; omega⟩
                    case measure => simp [intOf]; omega
                  · have B9 := HB.out
                    obtain ⟨e0, e1, e2, e3, e4, e5⟩ := B9.cells
                    have D := B9.done hlt
                    have q0 := D.q0
                    have q1 := D.q1
                    have HD := Lib.hid D
                    clear D B9
                    have HQ0 := Lib.hid q0; clear q0
                    have HQ1 := Lib.hid q1; clear q1
                    go_wp2_with fail
                    have q0 := HQ0.out
                    have q1 := HQ1.out
                    exact bodyPost_ret (by simp [results, Try.results13, go_sem, q0, q1]) rfl ⟨_, rfl, ⟨⟨costs', rows⟩, HD.out.prog, HS0.out _ (by have := HUL.out; omega), fun h => absurd h (by omega)⟩, HD.out.tape, HD.out.chg⟩
              · omega
          · have B9 := HB.out
            obtain ⟨e0, e1, e2, e3, e4, e5⟩ := B9.cells
            have D := B9.done hlt
            have q0 := D.q0
            have q1 := D.q1
            have HD := Lib.hid D
            clear D B9
            have HQ0 := Lib.hid q0; clear q0
            have HQ1 := Lib.hid q1; clear q1
            go_wp2_with fail
            have q0 := HQ0.out
            have q1 := HQ1.out
            exact bodyPost_ret (by simp [results, Try.results13, go_sem, q0, q1]) rfl ⟨_, rfl, ⟨⟨costs, rows⟩, HD.out.prog, small_of hcl0 (by rw [HL.out]; exact HG.out) h13 (by omega), fun _ => ⟨⟨hcl0, HX.out⟩, by show GoodRows costs.length rows; rw [HL.out]; exact HG.out, h13⟩⟩, HD.out.tape, HD.out.chg⟩
end Go.Proofs.Ytipelkbdonfkoaa
