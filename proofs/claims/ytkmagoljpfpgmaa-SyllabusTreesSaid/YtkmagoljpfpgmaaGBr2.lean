/- From a contract of the interpreter to a law's call: any arguments; slices of strings. -/
import Derived.Test.YtkmagoljpfpgmaaGBr
namespace Go.Proofs.Ytkmagoljpfpgmaa
set_option linter.unusedVariables false
set_option linter.unusedSimpArgs false
set_option linter.unnecessarySimpa false
set_option linter.unusedSectionVars false
open Go.RowKit

theorem law_all {f : Nat} {args : List AV} (hG : Good Try.prog TT false f args (· = .bool true)) {w : World} {us : List Value} (h : All2 (RepV w No) args us) :
    Calls Try.prog f us.toArray w (fun e w' => e = .returned (.bool true) ∧ Chg No w w') := by
  have hx : ∀ b, GX (G0 none No (none, 0, 0)) b → False := fun b hb => by rcases hb with hb | hb <;> simp_all [GM, G0, No]
  refine Calls.mono (hG.2 w No none us (none, 0, 0) (fun b hb => absurd hb no_) rfl (h.mono fun v u hr => RC.ra (RepV.rc (RepV.move hr (fun _ _ _ => rfl) fun b _ hb => (hx b hb).elim))) nofun) ?_
  rintro e w' ⟨u, r, rfl, rfl, hr, hc, -⟩
  have hu : RepV w' (GX (G0 none No (none, 0, 0))) (.bool true) u := hr
  cases hu
  exact ⟨rfl, hc.mono fun b _ hb => by cases hb⟩
theorem row_rep {α : Type} {enc : α → List AV} {val : α → Value} {w : World} {x : Addr} {len cap : Nat} {zs : List α} {d : α} (h1 : ∀ z, enc z = [(enc z)[0]?.getD .undef]) (hr : ∀ z, RepV w No ((enc z)[0]?.getD .undef) (val z)) (hl : len ≤ cap) (hz : len ≤ zs.length)
    (hc : ∀ i, i < zs.length → w.cell? (x.add i) = some (val (zs.getD i d))) : RepV w No (.lst 1 ((zs.take len).map enc)) (.slice (some x) len cap) := by
  rcases Nat.eq_zero_or_pos len with h0 | h0
  · subst h0
    exact .nil 1 _ _
  · have h00 := hc 0 (by omega)
    have hx : (x.add 0) = x := by simp [Addr.add]
    rw [hx] at h00
    have hs := spot_of_cell h00
    obtain ⟨b, off, sp⟩ := x
    simp only at hs
    subst hs
    have hb := World.block_lt_of_cell? w _ h00
    have hlen : ((zs.take len).map enc).length = len := by simp; omega
    have key := RepV.lst (w := w) (X := No) (z := 1) (es := (zs.take len).map enc) (b := b) (off := off) (c := cap) (fun i _ => val (zs.getD i d)) (fun e => by rw [e] at hlen; simp at hlen; omega) (by rw [hlen]; exact hl) hb no_ (fun cs hcs => by
      obtain ⟨z, _, rfl⟩ := List.mem_map.1 hcs
      rw [h1]; rfl) (fun i j v hv => ?_) (fun i j v hv => ?_)
    · rwa [hlen] at key
    all_goals
      obtain ⟨ds, k1, k2⟩ := at2_some hv
      rw [List.getElem?_map, List.getElem?_take] at k1
      split at k1
      · next hi =>
        have hlt : i < zs.length := by omega
        rw [List.getElem?_eq_getElem hlt] at k1
        simp only [Option.map_some, Option.some.injEq] at k1
        subst k1
        rw [h1] at k2
        have hj : j = 0 := by have := (List.getElem?_eq_some_iff.1 k2).1; simpa using this
        subst hj
        simp only [List.getElem?_cons_zero, Option.some.injEq] at k2
        have e : zs.getD i d = zs[i] := by simp [List.getD_eq_getElem?_getD, hlt]
        first
          | (have := hc i hlt
             rw [add_none] at this
             rw [Nat.mul_one, Nat.add_zero]; exact this)
          | (rw [← k2, e]; exact hr _)
      · simp at k1
def IsStrs (w : World) (a : Option Addr) (len cap : Nat) (zs : List ByteArray) : Prop :=
  (a = none ∧ len = 0 ∧ cap = 0 ∧ zs = []) ∨ ∃ x, a = some x ∧ len ≤ cap ∧ len ≤ zs.length ∧ ∀ i, i < zs.length → w.cell? (x.add i) = some (.string (zs.getD i ByteArray.empty))
theorem strs_row {w : World} {a : Option Addr} {len cap : Nat} {zs : List ByteArray} (h : IsStrs w a len cap zs) : RepV w No (.lst 1 ((zs.take len).map fun s => [AV.str s])) (.slice a len cap) := by
  rcases h with ⟨rfl, rfl, rfl, rfl⟩ | ⟨x, rfl, hl, hz, hc⟩
  · exact .nil 1 _ _
  · exact row_rep (val := .string) (d := ByteArray.empty) (fun z => rfl) (fun z => .str z) hl hz hc
theorem ints_row {w : World} {a : Option Addr} {len cap : Nat} {zs : List Int} (h : Ints w No a len cap zs) : RepV w No (ints zs) (.slice a len cap) := ints_rep h
theorem ints_max {w : World} {a : Option Addr} {len cap : Nat} {zs : List Int} (h : Ints w No a len cap zs) (hc : cap ≤ maxLen) : zs.length ≤ 9223372036854775807 := by
  have h1 := h.len
  have h2 := h.cap
  have h3 : maxLen = 9223372036854775807 := rfl
  omega
end Go.Proofs.Ytkmagoljpfpgmaa
