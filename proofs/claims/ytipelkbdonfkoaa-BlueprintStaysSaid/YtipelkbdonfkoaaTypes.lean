/- Rows and programs in memory. -/
import Derived.Test.YtipelkbdonfkoaaTape
namespace Go.Proofs.Ytipelkbdonfkoaa
set_option linter.unusedVariables false
open Go.RowKit

structure Row where
  coefs : List Int
  least : Int
  most : Int
structure Prog where
  costs : List Int
  rows : List Row
def Rep.row : Rep Row := ((Rep.slice Rep.int).pair (Rep.int.pair Rep.int)).by fun r => (r.coefs, r.least, r.most)
theorem row_rep {w : World} {X : Nat → Prop} {A : Option Addr} {n c : Nat} {r : Row} (h : Ints w X A n c r.coefs) : Rep.row.rep w X [.slice A n c, .int .i64 r.least, .int .i64 r.most] r :=
  ⟨[_], [_, _], rfl, ⟨A, n, c, rfl, h⟩, [_], [_], rfl, rfl, rfl⟩
theorem elemRow : Elem Try.prog 25 32 3 := elem_of (z := .agg #[.slice none 0 0, .int .i64 0, .int .i64 0]) (bytes := 40) Try.underlying25 (by kernel_rfl) rfl (by omega) (by omega)

/-- v holds the program P; blocks of X are not read. -/
def ProgV (X : Nat → Prop) (w : World) (v : Value) (P : Prog) : Prop := ∃ A n c A' n' c', v = .agg #[.slice A n c, .slice A' n' c'] ∧ Ints w X A n c P.costs ∧ Slc Rep.row w X A' n' c' P.rows

/-- The two slices hold the program P. -/
structure ProgAt (w : World) (X : Nat → Prop) (A : Option Addr) (n c : Nat) (R : Option Addr) (m d : Nat) (P : Prog) : Prop where
  costs : Ints w X A n c P.costs
  rows : Slc Rep.row w X R m d P.rows
theorem ProgAt.keep {w w' : World} {X : Nat → Prop} {A R : Option Addr} {n c m d : Nat} {P : Prog} (h : ProgAt w X A n c R m d P) (hc : Chg No w w') : ProgAt w' X A n c R m d P := ⟨h.costs.keep _ hc, h.rows.keep _ hc⟩
theorem ProgAt.chg {w w' : World} {X Y : Nat → Prop} {A R : Option Addr} {n c m d : Nat} {P : Prog} (h : ProgAt w X A n c R m d P) (hc : Chg Y w w') (hY : ∀ b, b < w.heap.size → Y b → X b) : ProgAt w' X A n c R m d P := ⟨h.costs.chg _ hc hY, h.rows.chg _ hc hY⟩
theorem ProgAt.fresh {w : World} {X : Nat → Prop} {A R : Option Addr} {n c m d : Nat} {P : Prog} (h : ProgAt w X A n c R m d P) : ProgAt w (fun b => X b ∨ w.heap.size ≤ b) A n c R m d P :=
  ⟨h.costs.less _ fun b hb hx => hx.elim id fun h => absurd h (by omega), h.rows.less _ fun b hb hx => hx.elim id fun h => absurd h (by omega)⟩
theorem ProgV.open {w : World} {X : Nat → Prop} {v : Value} {P : Prog} (h : ProgV X w v P) : ∃ A c R d, v = .agg #[.slice A P.costs.length c, .slice R P.rows.length d] ∧ ProgAt w X A P.costs.length c R P.rows.length d P := by
  obtain ⟨A, n, c, R, m, d, rfl, h1, h2⟩ := h
  obtain rfl := h1.len
  obtain rfl := h2.len
  exact ⟨A, c, R, d, rfl, h1, h2⟩
/-- The k-th row. -/
def rowAt (rs : List Row) (k : Nat) : Row := rs.getD k ⟨[], 0, 0⟩
theorem rowAt_some {rs : List Row} {k : Nat} (h : k < rs.length) : rs[k]? = some (rowAt rs k) := by
  simp [rowAt, List.getD_eq_getElem?_getD, List.getElem?_eq_getElem h]
theorem row_open {w : World} {X : Nat → Prop} {ys : List Value} {r : Row} (h : Rep.row.rep w X ys r) : ∃ A n c, ys = [.slice A n c, .int .i64 r.least, .int .i64 r.most] ∧ Ints w X A n c r.coefs := by
  obtain ⟨c1, d1, rfl, ⟨A, n, c, rfl, hi⟩, c2, d2, rfl, rfl, rfl⟩ := h
  exact ⟨A, n, c, rfl, hi⟩
theorem Slc.row_at {w : World} {X : Nat → Prop} {A : Option Addr} {n c : Nat} {rs : List Row} (h : Slc Rep.row w X A n c rs) : 0 < n → ∃ b off, A = some ⟨b, off, none⟩ ∧ b < w.heap.size ∧ ¬ X b ∧ ∀ k, k < n → ∃ A' n' c', w.cell? ⟨b, off + k * 3, none⟩ = some (.slice A' n' c') ∧ w.cell? ⟨b, off + k * 3 + 1, none⟩ = some (.int .i64 (rowAt rs k).least) ∧ w.cell? ⟨b, off + k * 3 + 2, none⟩ = some (.int .i64 (rowAt rs k).most) ∧ Ints w X A' n' c' (rowAt rs k).coefs := by
  intro hn
  obtain ⟨b, off, hA, hlt, hx, hi⟩ := h.at_ hn
  refine ⟨b, off, hA, hlt, hx, fun k hk => ?_⟩
  obtain ⟨ys, hy, hr⟩ := hi k _ (rowAt_some (by rw [h.len]; exact hk))
  obtain ⟨A', n', c', rfl, hI⟩ := row_open hr
  exact ⟨A', n', c', hy 0 _ rfl, hy 1 _ rfl, hy 2 _ rfl, hI⟩
end Go.Proofs.Ytipelkbdonfkoaa
