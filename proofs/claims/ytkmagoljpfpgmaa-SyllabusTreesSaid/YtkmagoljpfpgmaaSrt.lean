/- Slices of the function's own are sorted or turned round: the shelf's contracts in the interpreter's words. -/
import Derived.Test.YtkmagoljpfpgmaaGTape
import Derived.Shelf.Sort.Plain
import Derived.Shelf.Slices.In.SortNone
import Derived.Shelf.Slices.Reverse
import Derived.Sort.OwnSortedInts
namespace Go.Proofs.Ytkmagoljpfpgmaa
set_option linter.unusedVariables false
set_option linter.unusedSimpArgs false
set_option linter.unnecessarySimpa false
set_option linter.unusedSectionVars false
set_option maxRecDepth 10000
open Go.RowKit Go.Shelf Go.Sort
section
variable {P : Program} {tt : Nat} {b : Bool} {f : Nat}
theorem ints_css {w : World} {X : Nat → Prop} : ∀ {xs : List Int} {css : List (List Value)}, All2 (fun ds cs => ds.length = 1 ∧ All2 (RepV w X) ds cs) (xs.map encI) css → css = xs.map fun x => [Value.int .i64 x]
  | [], [], _ => rfl
  | x :: xs, c :: css, h => by
    obtain ⟨h1, h2⟩ := h
    have e := ints_css h2
    obtain ⟨u, us, rfl, h3, h4⟩ := h1.2.cons_inv
    obtain rfl := h4.nil_inv
    cases h3
    rw [e]; rfl
  | [], _ :: _, h => h.elim
  | _ :: _, [], h => h.elim
theorem css_ints {w : World} {X : Nat → Prop} : ∀ {xs : List Int}, All2 (fun ds cs => ds.length = 1 ∧ All2 (RepV w X) ds cs) (xs.map encI) (xs.map fun x => [Value.int .i64 x])
  | [] => trivial
  | x :: xs => ⟨⟨rfl, .int _ _, trivial⟩, css_ints⟩
theorem flat1 {α β : Type} (g : α → β) : ∀ xs : List α, (xs.map fun x => [g x]).flatten = xs.map g
  | [] => rfl
  | x :: xs => by simp [flat1 g xs]
theorem put_take (cur : Array Value) (ys : List Int) (h : ys.length ≤ cur.size) : (cur.toList.take (0 * 1) ++ (ys.map fun x => [Value.int .i64 x]).flatten ++ cur.toList.drop (0 * 1 + (ys.map fun x => [Value.int .i64 x]).flatten.length)).toArray = putCells (Value.int .i64) 0 ys.toArray cur := by
  apply Array.ext'
  simp only [flat1, Nat.zero_mul, List.take_zero, List.nil_append, Nat.zero_add, List.length_map]
  apply List.ext_getElem?
  intro j
  refine Eq.trans ?_ Array.getElem?_toList.symm
  show (ys.map (Value.int .i64) ++ cur.toList.drop ys.length)[j]? = _
  by_cases hj : j < ys.length
  · rw [List.getElem?_append_left (by simpa using hj)]
    simp [putCells, hj, show j < cur.size by omega]
  · rw [List.getElem?_append_right (by simpa using hj)]
    simp [putCells, hj, List.getElem?_drop, show ys.length + (j - ys.length) = j by omega]
/-- A function that lays other numbers into a slice of numbers. -/
theorem refill_ok (hent : Enters P f) (xs ys : List Int) (hl : ys.length = xs.length) (E : Nat)
    (hcall : ∀ (w : World) (g cap : Nat), Holds (Value.int .i64) w g 0 xs.toArray → g < w.heap.size → Calls P f #[.slice (some ⟨g, 0, none⟩) xs.length cap] w fun e w' => e = .returned (.tuple #[]) ∧ ∃ n os, w' = grow (putRow (Value.int .i64) (Sort.ahead w n) g 0 ys.toArray) os)
    (hnil : ∀ (w : World), Calls P f #[.slice none 0 0] w fun e w' => e = .returned (.tuple #[]) ∧ w' = w) :
    GoodM P tt b f [.own 0 E 1 (xs.map encI)] [] (fun r ov bx' => r = .tup [] ∧ ov = [(1000, .own 0 E 1 (ys.map encI))] ∧ bx' = []) := by
  refine ⟨hent, fun w0 G us S hA => ?_⟩
  obtain ⟨u, us', rfl, h1, h2⟩ := hA.cons_inv
  obtain rfl := h2.nil_inv
  obtain ⟨hT, css, ho, hcs⟩ := (show RC w0.B G w0.toWorld (.own 0 E 1 (xs.map encI)) u from h1)
  obtain rfl := ints_css hcs
  rcases ho.2 with ⟨rfl, h0⟩ | ⟨g, cap, cur, rfl, hg, hh, hc, hm, hsz, ht⟩
  · have hx : xs = [] := List.eq_nil_of_length_eq_zero (by simpa using h0)
    subst hx
    have hy : ys = [] := List.eq_nil_of_length_eq_zero (by simpa using hl)
    subst hy
    refine (hnil _).mono ?_
    rintro e w' ⟨rfl, rfl⟩
    exact ⟨_, .tup [], _, [], G, rfl, ⟨rfl, rfl, rfl⟩, S, ⟨[], rfl, trivial⟩⟩
  · have hlen : (xs.map encI).length = xs.length := List.length_map ..
    rw [hlen] at hc ht ⊢
    rw [Nat.mul_one, flat1] at ht
    have hlt : g < w0.toWorld.heap.size := (Array.getElem?_eq_some_iff.1 hh).1
    have hcur : ys.length ≤ cur.size := by omega
    refine (hcall _ g cap (holds_of_blockI hh ht) hlt).mono ?_
    rintro e w' ⟨rfl, n, os, rfl⟩
    have S1 := S.copyOwn (src := ys.map encI) (dss := ys.map fun x => [Value.int .i64 x]) (lo := 0) (z := 1) (T := 0) (n := (xs.map encI).length) hT hh (by simp [hl]) (by simp; omega) css_ints
    rw [put_take cur ys hcur] at S1
    have S2 := S1.world (w' := grow (putRow (Value.int .i64) (Sort.ahead w0.toWorld n) g 0 ys.toArray) os) ?sz ?bl ?ch
    case sz => simp [World.setRow, grow, putRow, mapBlock, Sort.ahead]
    case bl =>
      intro k hk
      by_cases hkg : k = g
      · subst hkg
        rw [heap_sortedI _ hh, setRow_heap _ _ _ _ _ _ hh]
      · rw [setRow_other _ _ _ _ hkg]
        have := (grownBy_sortedI (w := w0.toWorld) (g := g) (n := n) (os := os) ys.toArray).block k (by simpa [World.setRow] using hk) (by simpa using hkg)
        exact this
    case ch =>
      refine S.chg.grown (row := some g) (grownBy_sortedI _) fun k hk => ?_
      injection hk with hk
      subst hk
      rcases (S.ownLt 0 _ g hT rfl).1 with h | h
      · exact .inr h
      · exact .inl (.inr h)
    refine ⟨_, .tup [], [(1000, .own 0 E 1 (ys.map encI))], [], G, rfl, ⟨rfl, rfl, rfl⟩, ?_, ⟨[], rfl, trivial⟩⟩
    have e : spl (xs.map encI) 0 (ys.map encI) = ys.map encI := by simp [spl, hl]
    refine { S2 with slot := fun i => ?_, box := fun t cs h => by cases h }
    by_cases hi : i = 1000
    · subst hi
      have := S2.slot 1000
      rw [show ((mkSt (ovOf 1000 [AV.own 0 E 1 (xs.map encI)]) [] b).map (copyF 0 1 0 (ys.map encI))).slot 1000 = .own 0 E 1 (spl (xs.map encI) 0 (ys.map encI)) from rfl, e] at this
      exact this
    · rw [show (mkSt [(1000, AV.own 0 E 1 (ys.map encI))] [] b).slot i = .undef from by simp [mkSt, lk, beq_ne hi]]
      trivial
end
end Go.Proofs.Ytkmagoljpfpgmaa
