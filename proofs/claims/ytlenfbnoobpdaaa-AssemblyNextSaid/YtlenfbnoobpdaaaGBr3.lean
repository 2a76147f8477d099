/- From a contract of the interpreter to a law's call: slices of structs whose fields are numbers. -/
import Derived.Test.YtlenfbnoobpdaaaGBr2
import Derived.Deep.Slices
import Derived.Deep.Fields
import Derived.ChangeSame
namespace Go.Proofs.Ytlenfbnoobpdaaa
set_option linter.unusedVariables false
set_option linter.unusedSimpArgs false
open Go.RowKit Go.ChangeShapes Go.WideShapes Go.Deep

/-- A slice of structs with z numbers each: its elements. -/
def IsRecs (w : World) (z : Nat) (a : Option Addr) (len cap : Nat) (zs : List (List Int)) : Prop :=
  zs.length = len ∧ (∀ r ∈ zs, r.length = z) ∧ len ≤ cap ∧ (0 < len → ∃ x, a = some x ∧ ∀ i j r v, zs[i]? = some r → r[j]? = some v → w.cell? (x.add (i * z + j)) = some (.int .i64 v))
theorem recs_row {w : World} {z : Nat} {a : Option Addr} {len cap : Nat} {zs : List (List Int)} (hz : 0 < z) (h : IsRecs w z a len cap zs) : RepV w No (.lst z (zs.map fun r => r.map (AV.int .i64))) (.slice a len cap) := by
  obtain ⟨rfl, h1, h2, h3⟩ := h
  by_cases h0 : zs = []
  · subst h0; exact .nil z _ _
  · obtain ⟨x, rfl, hc⟩ := h3 (List.length_pos_iff.2 h0)
    obtain ⟨r0, hr0⟩ : ∃ r, zs[0]? = some r := ⟨_, List.getElem?_eq_getElem (List.length_pos_iff.2 h0)⟩
    obtain ⟨v0, hv0⟩ : ∃ v, r0[0]? = some v := ⟨_, List.getElem?_eq_getElem (by rw [h1 r0 (List.mem_of_getElem? hr0)]; exact hz)⟩
    have h00 := hc 0 0 r0 v0 hr0 hv0
    rw [Nat.zero_mul, Nat.add_zero, show x.add 0 = x by simp [Addr.add]] at h00
    have hs := spot_of_cell h00
    obtain ⟨b, off, sp⟩ := x
    simp only at hs
    subst hs
    have hb := World.block_lt_of_cell? w _ h00
    have key := RepV.lst (w := w) (X := No) (z := z) (es := zs.map fun r => r.map (AV.int .i64)) (b := b) (off := off) (c := cap) (fun i j => .int .i64 (((zs[i]?).bind (·[j]?)).getD 0)) (by simpa using h0) (by simpa using h2) hb no_ (fun cs hcs => by
      obtain ⟨r, hr, rfl⟩ := List.mem_map.1 hcs
      simpa using h1 r hr) (fun i j d hd => ?_) (fun i j d hd => ?_)
    · rwa [List.length_map] at key
    all_goals
      obtain ⟨ds, k1, k2⟩ := at2_some hd
      rw [List.getElem?_map, Option.map_eq_some_iff] at k1
      obtain ⟨r, hr, rfl⟩ := k1
      rw [List.getElem?_map, Option.map_eq_some_iff] at k2
      obtain ⟨v, hv, rfl⟩ := k2
      simp only [hr, hv, Option.bind_some, Option.getD_some]
      first
        | exact RepV.int _ _
        | (have := hc i j r v hr hv
           rw [add_none] at this
           rw [Nat.add_assoc]; exact this)
def numOf : Value → Int
  | .int _ v => v
  | _ => 0
section
variable {H : Type} {enc : TypeId × Value → H} {P : Program} {w : World} {base : Nat} {spare : Nat → Bool} {held : Bool}
/-- An argument that is a slice of structs of numbers. -/
theorem open_recs {t e : TypeId} {fs : Array Field} {fuel : Nat} {A : Option Addr} {len cap : Nat} {x : DataW H × List MemPlace} (ht : P.underlying t = some (.slice e)) (he : P.underlying e = some (.struct fs)) (hC : P.cellsOf e = fs.size)
    (hint : ∀ (j : Nat) (f : Field), fs[j]? = some f → P.underlying f.type = some (.int .i64) ∧ f.offset = j ∧ P.cellsOf f.type = 1) (h : DataW.trod enc P w base spare held fuel t [.slice A len cap] = some x) : ∃ zs, IsRecs w fs.size A len cap zs := by
  rcases open_slice ht h with ⟨h0, -⟩ | ⟨a, len', cap', m, n, D, Pl, hcs, hb, hl, hm, hmm, hx, hi⟩
  · simp at h0
    obtain ⟨rfl, rfl, rfl⟩ := h0
    exact ⟨[], rfl, by simp, Nat.le_refl _, fun h => by omega⟩
  · simp at hcs
    obtain ⟨rfl, rfl, rfl⟩ := hcs
    have hle : len ≤ m := by rw [hmm]; split <;> omega
    have key : ∀ i, i < len → ∃ r : List Int, r.length = fs.size ∧ ∀ j v, r[j]? = some v → w.cell? (a.add (i * fs.size + j)) = some (.int .i64 v) := fun i hil => by
      obtain ⟨cs', hc, ht'⟩ := hi i (by omega)
      rw [hC] at hc
      obtain ⟨ys, n', hn', hy, hlen, hyl, hf⟩ := DataW.trod_struct he ht'
      obtain ⟨_, hcl, hat⟩ := World.cells?_some hc
      have each : ∀ j, j < fs.size → ∃ v : Int, cs'[j]? = some (.int .i64 v) := fun j hj => by
        obtain ⟨f, hfj⟩ : ∃ f, fs[j]? = some f := ⟨_, Array.getElem?_eq_getElem hj⟩
        obtain ⟨q1, q2, q3⟩ := hint j f hfj
        have h1 := hf j f hfj
        rw [q2, q3] at h1
        have hone' : (cs'.drop j).take 1 = [cs'[j]'(by omega)] := by
          rw [List.drop_eq_getElem_cons (by omega)]; rfl
        rw [hone', List.getElem?_eq_getElem (by omega)] at h1
        obtain ⟨v, hv, -⟩ := DataW.trod_int q1 h1
        exact ⟨v, by rw [List.getElem?_eq_getElem (by omega)]; simpa using hv⟩
      refine ⟨(List.range fs.size).map fun j => numOf ((cs'[j]?).getD Go.undef), by simp, fun j v hv => ?_⟩
      rw [List.getElem?_map, Option.map_eq_some_iff] at hv
      obtain ⟨j', hj', hv⟩ := hv
      have hjl : j < fs.size := by have := (List.getElem?_eq_some_iff.1 hj').1; simpa using this
      rw [List.getElem?_range hjl] at hj'
      injection hj' with hj'
      subst hj'
      obtain ⟨v', hv'⟩ := each j hjl
      rw [hv'] at hv
      simp only [Option.getD_some, numOf] at hv
      subst hv
      rw [← Go.Deep.add_add, hat j hjl, hv']
    refine ⟨(List.range len).map fun i => if hil : i < len then Classical.choose (key i hil) else [], by simp, fun r hr => ?_, hl, fun _ => ⟨a, rfl, fun i j r v hr hv => ?_⟩⟩
    · obtain ⟨i, hil, rfl⟩ := List.mem_map.1 hr
      rw [dif_pos (List.mem_range.1 hil)]
      exact (Classical.choose_spec (key i (List.mem_range.1 hil))).1
    · rw [List.getElem?_map, Option.map_eq_some_iff] at hr
      obtain ⟨i', hi', hr⟩ := hr
      have hil : i < len := by have := (List.getElem?_eq_some_iff.1 hi').1; simpa using this
      rw [List.getElem?_range hil] at hi'
      injection hi' with hi'
      subst hi'
      rw [dif_pos hil] at hr
      subst hr
      exact (Classical.choose_spec (key i hil)).2 j v hv
end
end Go.Proofs.Ytlenfbnoobpdaaa
