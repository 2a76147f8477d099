/- Several texts in one: GBrM3, GBrM5, GL25K, GL26w, GL26v. -/
import Derived.Test.YthgnomniboindaaD7
import Derived.Deep.Slices
import Derived.Deep.Fields
import Derived.ChangeSame
import Derived.ChangeSlices
import Derived.SizedLaws
import Derived.Test.YthgnomniboindaaD4
import Derived.Test.YthgnomniboindaaD5
/- From a contract of the interpreter to a law's call: slices of structs whose fields are numbers. -/
section
namespace Go.Proofs.Ythgnomniboindaa
set_option linter.unusedVariables false
set_option linter.unusedSimpArgs false
open Go.RowKit Go.ChangeShapes Go.WideShapes Go.Deep

/-- A slice of structs with z numbers each: its elements. -/
def IsRecs (w : World) (z : Nat) (a : Option Addr) (len cap : Nat) (zs : List (List Int)) : Prop :=
  zs.length = len ∧ (∀ r ∈ zs, r.length = z) ∧ len ≤ cap ∧ len ≤ 9223372036854775807 ∧ (0 < len → ∃ x, a = some x ∧ ∀ i j r v, zs[i]? = some r → r[j]? = some v → w.cell? (x.add (i * z + j)) = some (.int .i64 v))
theorem recs_row {w : World} {z : Nat} {a : Option Addr} {len cap : Nat} {zs : List (List Int)} (hz : 0 < z) (h : IsRecs w z a len cap zs) : RepV w No (.lst z (zs.map fun r => r.map (AV.int .i64))) (.slice a len cap) := by
  obtain ⟨rfl, h1, h2, -, h3⟩ := h
  by_cases h0 : zs = []
  · subst h0; exact .nil z _ _
  · obtain ⟨x, rfl, hc⟩ := h3 (List.length_pos_iff.2 h0)
    obtain ⟨r0, hr0⟩ : ∃ r, zs[0]? = some r := ⟨_, List.getElem?_eq_getElem (List.length_pos_iff.2 h0)⟩
    obtain ⟨v0, hv0⟩ : ∃ v, r0[0]? = some v := ⟨_, List.getElem?_eq_getElem (by rw [h1 r0 (List.mem_of_getElem? hr0)]; exact hz)⟩
    have h00 := hc 0 0 r0 v0 hr0 hv0
    rw [Nat.zero_mul, Nat.add_zero, show x.add 0 = x by simp [Addr.add]] at h00
    have hs := spot_of_cell h00
    obtain ⟨b, off, sp⟩ := x
    simp only at hs
    subst hs
    have hb := World.block_lt_of_cell? w _ h00
    have key := RepV.lst (w := w) (X := No) (z := z) (es := zs.map fun r => r.map (AV.int .i64)) (b := b) (off := off) (c := cap) (fun i j => .int .i64 (((zs[i]?).bind (·[j]?)).getD 0)) (by simpa using h0) (by simpa using h2) hb no_ (fun cs hcs => by
      obtain ⟨r, hr, rfl⟩ := List.mem_map.1 hcs
      simpa using h1 r hr) (fun i j d hd => ?_) (fun i j d hd => ?_)
    · rwa [List.length_map] at key
    all_goals
      obtain ⟨ds, k1, k2⟩ := at2_some hd
      rw [List.getElem?_map, Option.map_eq_some_iff] at k1
      obtain ⟨r, hr, rfl⟩ := k1
      rw [List.getElem?_map, Option.map_eq_some_iff] at k2
      obtain ⟨v, hv, rfl⟩ := k2
      simp only [hr, hv, Option.bind_some, Option.getD_some]
      first
        | exact RepV.int _ _
        | (have := hc i j r v hr hv
           rw [add_none] at this
           rw [Nat.add_assoc]; exact this)
def numOf : Value → Int
  | .int _ v => v
  | _ => 0
section
variable {H : Type} {enc : TypeId × Value → H} {P : Program} {w : World} {base : Nat} {spare : Nat → Bool} {held : Bool}
/-- An argument that is a slice of structs of numbers. -/
theorem open_recs {t e : TypeId} {fs : Array Field} {fuel : Nat} {A : Option Addr} {len cap : Nat} {x : DataW H × List MemPlace} (ht : P.underlying t = some (.slice e)) (he : P.underlying e = some (.struct fs)) (hC : P.cellsOf e = fs.size)
    (hint : ∀ (j : Nat) (f : Field), fs[j]? = some f → P.underlying f.type = some (.int .i64) ∧ f.offset = j ∧ P.cellsOf f.type = 1) (h : DataW.trod enc P w base spare held fuel t [.slice A len cap] = some x) : ∃ zs, IsRecs w fs.size A len cap zs := by
  rcases open_slice ht h with ⟨h0, -⟩ | ⟨a, len', cap', m, n, D, Pl, hcs, hb, hl, hm, hmm, hx, hi⟩
  · simp at h0
    obtain ⟨rfl, rfl, rfl⟩ := h0
    exact ⟨[], rfl, by simp, Nat.le_refl _, by omega, fun h => by omega⟩
  · simp at hcs
    obtain ⟨rfl, rfl, rfl⟩ := hcs
    have hle : len ≤ m := by rw [hmm]; split <;> omega
    have key : ∀ i, i < len → ∃ r : List Int, r.length = fs.size ∧ ∀ j v, r[j]? = some v → w.cell? (a.add (i * fs.size + j)) = some (.int .i64 v) := fun i hil => by
      obtain ⟨cs', hc, ht'⟩ := hi i (by omega)
      rw [hC] at hc
      obtain ⟨ys, n', hn', hy, hlen, hyl, hf⟩ := DataW.trod_struct he ht'
      obtain ⟨_, hcl, hat⟩ := World.cells?_some hc
      have each : ∀ j, j < fs.size → ∃ v : Int, cs'[j]? = some (.int .i64 v) := fun j hj => by
        obtain ⟨f, hfj⟩ : ∃ f, fs[j]? = some f := ⟨_, Array.getElem?_eq_getElem hj⟩
        obtain ⟨q1, q2, q3⟩ := hint j f hfj
        have h1 := hf j f hfj
        rw [q2, q3] at h1
        have hone' : (cs'.drop j).take 1 = [cs'[j]'(by omega)] := by
          rw [List.drop_eq_getElem_cons (by omega)]; rfl
        rw [hone', List.getElem?_eq_getElem (by omega)] at h1
        obtain ⟨v, hv, -⟩ := DataW.trod_int q1 h1
        exact ⟨v, by rw [List.getElem?_eq_getElem (by omega)]; simpa using hv⟩
      refine ⟨(List.range fs.size).map fun j => numOf ((cs'[j]?).getD Go.undef), by simp, fun j v hv => ?_⟩
      rw [List.getElem?_map, Option.map_eq_some_iff] at hv
      obtain ⟨j', hj', hv⟩ := hv
      have hjl : j < fs.size := by have := (List.getElem?_eq_some_iff.1 hj').1; simpa using this
      rw [List.getElem?_range hjl] at hj'
      injection hj' with hj'
      subst hj'
      obtain ⟨v', hv'⟩ := each j hjl
      rw [hv'] at hv
      simp only [Option.getD_some, numOf] at hv
      subst hv
      rw [← Go.Deep.add_add, hat j hjl, hv']
    refine ⟨(List.range len).map fun i => if hil : i < len then Classical.choose (key i hil) else [], by simp, fun r hr => ?_, hl, by have h3 : maxLen = 9223372036854775807 := rfl; omega, fun _ => ⟨a, rfl, fun i j r v hr hv => ?_⟩⟩
    · obtain ⟨i, hil, rfl⟩ := List.mem_map.1 hr
      rw [dif_pos (List.mem_range.1 hil)]
      exact (Classical.choose_spec (key i (List.mem_range.1 hil))).1
    · rw [List.getElem?_map, Option.map_eq_some_iff] at hr
      obtain ⟨i', hi', hr⟩ := hr
      have hil : i < len := by have := (List.getElem?_eq_some_iff.1 hi').1; simpa using this
      rw [List.getElem?_range hil] at hi'
      injection hi' with hi'
      subst hi'
      rw [dif_pos hil] at hr
      subst hr
      exact (Classical.choose_spec (key i hil)).2 j v hv
end
end Go.Proofs.Ythgnomniboindaa
end

/- From a contract of the interpreter to a law's call: slices of structs of a number and a slice of numbers. -/
section
namespace Go.Proofs.Ythgnomniboindaa
set_option linter.unusedVariables false
set_option linter.unusedSimpArgs false
open Go.RowKit Go.ChangeShapes Go.WideShapes Go.Deep
def pairV (r : Int × List Int) : List AV := [.int .i64 r.1, ints r.2]
/-- A slice of structs with a number and a slice of numbers each. -/
def IsSeds (w : World) (a : Option Addr) (len cap : Nat) (zs : List (Int × List Int)) : Prop :=
  zs.length = len ∧ (len ≤ cap ∧ zs.length ≤ 9223372036854775807) ∧ (∀ r ∈ zs, r.2.length ≤ 17592186044416) ∧ (0 < len → ∃ x, a = some x ∧ ∀ i r, zs[i]? = some r → w.cell? (x.add (i * 2 + 0)) = some (.int .i64 r.1) ∧ ∃ u, w.cell? (x.add (i * 2 + 1)) = some u ∧ RepV w No (ints r.2) u)
theorem seds_row {w : World} {a : Option Addr} {len cap : Nat} {zs : List (Int × List Int)} (h : IsSeds w a len cap zs) : RepV w No (.lst 2 (zs.map pairV)) (.slice a len cap) := by
  obtain ⟨rfl, ⟨h2, -⟩, -, h3⟩ := h
  by_cases h0 : zs = []
  · subst h0; exact .nil 2 _ _
  · obtain ⟨x, rfl, hc⟩ := h3 (List.length_pos_iff.2 h0)
    obtain ⟨r0, hr0⟩ : ∃ r, zs[0]? = some r := ⟨_, List.getElem?_eq_getElem (List.length_pos_iff.2 h0)⟩
    have h00 := (hc 0 r0 hr0).1
    rw [show x.add (0 * 2 + 0) = x by simp [Addr.add]] at h00
    have hs := spot_of_cell h00
    obtain ⟨b, off, sp⟩ := x
    simp only at hs
    subst hs
    have hb := World.block_lt_of_cell? w _ h00
    have key := RepV.lst (w := w) (X := No) (z := 2) (es := zs.map pairV) (b := b) (off := off) (c := cap) (fun i j => (w.cell? ⟨b, off + (i * 2 + j), none⟩).getD Go.undef) (by simpa using h0) (by simpa using h2) hb no_ (fun cs hcs => by
      obtain ⟨r, hr, rfl⟩ := List.mem_map.1 hcs
      rfl) (fun i j d hd => ?_) (fun i j d hd => ?_)
    · rwa [List.length_map] at key
    all_goals
      obtain ⟨ds, k1, k2⟩ := at2_some hd
      rw [List.getElem?_map, Option.map_eq_some_iff] at k1
      obtain ⟨r, hr, rfl⟩ := k1
      obtain ⟨g1, u, g2, g3⟩ := hc i r hr
      rw [add_none] at g1 g2
      have hj : j < 2 := (List.getElem?_eq_some_iff.1 k2).1
      match j, hj with
      | 0, _ =>
        simp only [pairV, List.getElem?_cons_zero, Option.some.injEq] at k2
        subst k2
        first
          | (rw [← Nat.add_assoc] at g1; rw [← Nat.add_assoc, g1]; rfl)
          | (rw [g1]; rfl)
          | (rw [g1]; exact RepV.int _ _)
      | 1, _ =>
        simp only [pairV, List.getElem?_cons_succ, List.getElem?_cons_zero, Option.some.injEq] at k2
        subst k2
        first
          | (rw [← Nat.add_assoc] at g2; rw [← Nat.add_assoc, g2]; rfl)
          | (rw [g2]; rfl)
          | (rw [g2]; exact g3)
theorem weights_all {H : Type} {P : Program} {e : TypeId} : ∀ {ds : List (DataW H)} {d : DataW H} {n : Nat}, d ∈ ds → n ∈ d.weights P e → n ∈ DataW.weightsAll P e ds
  | d0 :: ds, d, n, hd, hn => by
    rw [DataW.weightsAll, List.mem_append]
    rcases List.mem_cons.1 hd with rfl | h
    · exact .inl hn
    · exact .inr (weights_all h hn)
section
variable {H : Type} {enc : TypeId × Value → H} {P : Program} {w : World} {base : Nat} {held : Bool}
theorem open_seds {t e k : TypeId} {f0 f1 : Field} {fuel : Nat} {A : Option Addr} {len cap : Nat} {x : DataW H × List MemPlace} (ht : P.underlying t = some (.slice e)) (he : P.underlying e = some (.struct #[f0, f1])) (h0 : P.underlying f0.type = some (.int .i64)) (h1 : P.underlying f1.type = some (.slice k)) (hk : P.underlying k = some (.int .i64))
    (hC : P.cellsOf e = 2) (hC0 : P.cellsOf f0.type = 1) (hC1 : P.cellsOf f1.type = 1) (hCk : P.cellsOf k = 1) (hB : P.bytesOf k = 8) (ho0 : f0.offset = 0) (ho1 : f1.offset = 1)
    (hw : ∀ n ∈ x.1.weights P t, n ≤ reachBytes)
    (h : DataW.trod enc P w base (fun _ => true) held fuel t [.slice A len cap] = some x) : ∃ zs, IsSeds w A len cap zs := by
  rcases open_slice ht h with ⟨h0', -⟩ | ⟨a, len', cap', m, n, D, Pl, hcs, hb, hl, hm, hmm, hx, hi⟩
  · simp at h0'
    obtain ⟨rfl, rfl, rfl⟩ := h0'
    exact ⟨[], rfl, ⟨Nat.le_refl _, by simp⟩, by simp, fun h => by omega⟩
  · simp at hcs
    obtain ⟨rfl, rfl, rfl⟩ := hcs
    have hle : len ≤ m := by rw [hmm]; split <;> omega
    have key : ∀ i, i < len → ∃ r : Int × List Int, r.2.length ≤ 17592186044416 ∧ w.cell? (a.add (i * 2 + 0)) = some (.int .i64 r.1) ∧ ∃ u, w.cell? (a.add (i * 2 + 1)) = some u ∧ RepV w No (ints r.2) u := fun i hil => by
      obtain ⟨cs', hc, ht'⟩ := hi i (by omega)
      rw [hC] at hc
      obtain ⟨_, hcl, hat⟩ := World.cells?_some hc
      obtain ⟨y0, y1, n', hxx, hlen, hy0, hy1⟩ := trod_struct2 he ht'
      rw [ho0, hC0] at hy0
      rw [ho1, hC1] at hy1
      match cs', hcl with
      | [c0, c1], _ =>
        have e0 := hat 0 (by omega)
        have e1 := hat 1 (by omega)
        obtain ⟨v, hv, -⟩ := DataW.trod_int h0 hy0
        have hv' : c0 = .int .i64 v := by simpa using hv
        subst hv'
        have hwt : ∀ n ∈ y1.1.weights P f1.type, n ≤ reachBytes := fun n hn => by
          refine hw n ?_
          rw [hx]
          simp only [DataW.weights, ht]
          refine List.mem_cons_of_mem _ (List.mem_append.2 (.inl (weights_all (d := D i) (List.mem_map.2 ⟨i, List.mem_range.2 hil, rfl⟩) ?_)))
          have hD : D i = .agg [y0.1, y1.1] := congrArg Prod.fst hxx
          rw [hD]
          simp only [DataW.weights, he]
          simp only [List.map, DataW.weightsEach, List.mem_append]
          exact .inr (.inl hn)
        have ht1 : DataW.trod enc P w base (fun _ => true) held n' f1.type [c1] = some y1 := hy1
        have g0 : w.cell? (a.add (i * 2 + 0)) = some (.int .i64 v) := by
          rw [← Go.Deep.add_add]; exact e0
        rcases open_ints h1 hk hCk ht1 with ⟨hcc, -⟩ | ⟨y, l, c, zs, hcc, hb', hl', hm', hz', hyy, hcell, hwz⟩
        · obtain rfl : c1 = .slice none 0 0 := by simpa using hcc
          exact ⟨(v, []), by simp, g0, .slice none 0 0, by rw [← Go.Deep.add_add]; exact e1, .nil 1 _ _⟩
        · obtain rfl : c1 = .slice (some y) l c := by simpa using hcc
          have hz2 : zs.length = c := by simpa using hz'
          have hI := (ofRow (w := w) (a := some y) (len := l) (cap := c) (zs := zs) (.inr ⟨y, rfl, hl', hm', hz2, hcell, hwz⟩)).1
          refine ⟨(v, zs.take l), ?_, g0, .slice (some y) l c, by rw [← Go.Deep.add_add]; exact e1, ints_row hI⟩
          have := hwt ((zs.take l).length * 8 + (zs.drop l).length * 8) (by
            rw [hyy]
            simp only [DataW.weights, h1, hB]
            refine List.mem_cons.2 (.inl ?_)
            rw [Nat.add_mul]; simp [lits])
          have hr : reachBytes = 140737488351232 := rfl
          simp only
          omega
    refine ⟨(List.range len).map fun i => if hil : i < len then Classical.choose (key i hil) else (0, []), by simp, ⟨hl, by have h8 : maxLen = 9223372036854775807 := rfl; simp; omega⟩, fun r hr => ?_, fun _ => ⟨a, rfl, fun i r hr => ?_⟩⟩
    · obtain ⟨i, hil, rfl⟩ := List.mem_map.1 hr
      rw [dif_pos (List.mem_range.1 hil)]
      exact (Classical.choose_spec (key i (List.mem_range.1 hil))).1
    · rw [List.getElem?_map, Option.map_eq_some_iff] at hr
      obtain ⟨i', hi', hr⟩ := hr
      have hil : i < len := by have := (List.getElem?_eq_some_iff.1 hi').1; simpa using this
      rw [List.getElem?_range hil] at hi'
      injection hi' with hi'
      subst hi'
      rw [dif_pos hil] at hr
      subst hr
      exact (Classical.choose_spec (key i hil)).2
end
end Go.Proofs.Ythgnomniboindaa
end

/- Tasks as a parameter of a law. -/
section
namespace Go.Proofs.Ythgnomniboindaa
set_option linter.unusedVariables false
set_option linter.unusedSimpArgs false
open Go.RowKit
def tskOf (r : List Int) : Int × Int := (r.getD 0 0, r.getD 1 0)
theorem tskOf_enc {r : List Int} (h : r.length = 2) : r.map (AV.int .i64) = encT (tskOf r) := by
  match r, h with
  | [a, b], _ => rfl
theorem tasks_row {w : World} {a : Option Addr} {len cap : Nat} {zs : List (List Int)} (h : IsRecs w 2 a len cap zs) : RepV w No (tasksV (zs.map tskOf)) (.slice a len cap) := by
  have e : (zs.map fun r => r.map (AV.int .i64)) = (zs.map tskOf).map encT := by
    rw [List.map_map]
    exact List.map_congr_left fun r hr => tskOf_enc (h.2.1 r hr)
  have := recs_row (by omega) h
  rw [e] at this
  exact this
theorem tasks_max {w : World} {a : Option Addr} {len cap : Nat} {zs : List (List Int)} (h : IsRecs w 2 a len cap zs) : (zs.map tskOf).length ≤ 9223372036854775807 := by
  rw [List.length_map, h.1]; exact h.2.2.2.1
theorem i64_in {a : Int} (h : (Lit.int .i64 a).wf = true) : -9223372036854775808 ≤ a ∧ a ≤ 9223372036854775807 := by
  simp [Lit.wf, IntKind.min, IntKind.max, IntKind.bits, IntKind.signed] at h
  omega
end Go.Proofs.Ythgnomniboindaa
end

/- Seeds as a parameter of a law. -/
section
namespace Go.Proofs.Ythgnomniboindaa
set_option linter.unusedVariables false
set_option linter.unusedSimpArgs false
open Go.RowKit
def sedOf (r : Int × List Int) : Sed := ⟨r.1, r.2⟩
theorem sedsP_row {w : World} {a : Option Addr} {len cap : Nat} {zs : List (Int × List Int)} (h : IsSeds w a len cap zs) : RepV w No (sedsV (zs.map sedOf)) (.slice a len cap) := by
  have e : zs.map pairV = (zs.map sedOf).map encSd := by rw [List.map_map]; rfl
  have := seds_row h
  rw [e] at this
  exact this
theorem seds_max {w : World} {a : Option Addr} {len cap : Nat} {zs : List (Int × List Int)} (h : IsSeds w a len cap zs) : (zs.map sedOf).length ≤ 9223372036854775807 := by
  rw [List.length_map]; exact h.2.1.2
theorem seds_marks {w : World} {a : Option Addr} {len cap : Nat} {zs : List (Int × List Int)} (h : IsSeds w a len cap zs) : ∀ (k : Nat) (y : Sed), (zs.map sedOf)[k]? = some y → y.marks.length ≤ 17592186044416 := fun k y hk => by
  rw [List.getElem?_map, Option.map_eq_some_iff] at hk
  obtain ⟨r, hr, rfl⟩ := hk
  exact h.2.2.1 r (List.mem_of_getElem? hr)
end Go.Proofs.Ythgnomniboindaa
end

/- Layer 26: all functions for any scripts, seeds and tasks: the law SeedingExact. -/
section
namespace Go.Proofs.Ythgnomniboindaa
set_option linter.unusedVariables false
set_option linter.unusedSimpArgs false
set_option linter.unnecessarySimpa false
set_option linter.unusedSectionVars false
set_option maxRecDepth 10000
open Go.RowKit
def plGL26v_0 : Plan := (.take 0 (.take 1 (.take 2 (.take 3 (.take 4 (.alt 5 (.alt 6 (.take 7 (.altE 8 .done .stop)) .stop) .stop))))))
def plGL26v_1 : Plan := (.take 0 (.take 1 (.take 2 (.take 4 (.alt 3 (.alt 5 (.alt 6 (.take 7 (.alt 8 .done .stop)) .stop) .stop) (.alt 5 (.alt 3 (.alt 6 (.take 7 (.alt 8 .done .stop)) .stop) (.alt 6 (.alt 3 (.take 7 (.alt 8 .done .stop)) .stop) .stop)) .stop))))))
def plGL26v_2 : Plan := (.take 0 (.take 1 (.take 3 (.take 4 (.take 7 (.take 8 (.take 10 (.take 11 (.alt 2 (.alt 5 (.alt 6 (.alt 9 (.alt 12 (.alt 13 (.alt 14 (.take 15 .done) .stop) .stop) .stop) .stop) (.alt 9 (.alt 6 (.alt 12 (.alt 13 (.alt 14 (.take 15 .done) .stop) .stop) .stop) (.alt 12 (.alt 6 (.alt 13 (.alt 14 (.take 15 .done) .stop) .stop) (.alt 13 (.alt 6 (.alt 14 (.take 15 .done) .stop) .stop) .stop)) .stop)) .stop)) .stop) .stop)))))))))
def plGL26v_3 : Plan := (.take 0 (.take 1 (.take 2 (.take 4 (.take 5 (.take 6 (.alt 3 (.alt 7 (.alt 8 (.take 9 .done) .stop) .stop) .stop)))))))
def plGL26v_4 : Plan := (.take 0 (.take 2 (.take 4 (.take 6 (.alt 1 (.alt 3 (.alt 5 (.alt 7 (.alt 8 (.take 9 .done) .stop) .stop) .stop) (.alt 5 (.alt 3 (.alt 7 (.alt 8 (.take 9 .done) .stop) .stop) .stop) .stop)) (.alt 5 (.alt 1 (.alt 3 (.alt 7 (.alt 8 (.take 9 .done) .stop) .stop) .stop) .stop) .stop))))))
def plGL26v_5 : Plan := (.take 0 (.take 1 (.take 2 (.take 3 (.take 4 (.take 5 (.take 7 (.take 8 (.take 9 (.take 10 (.take 11 (.take 12 (.alt 6 (.alt 13 (.take 14 .done) .stop) .stop)))))))))))))
def plGL26v_6 : Plan := (.take 0 (.take 2 (.take 4 (.take 5 (.take 7 (.take 9 (.take 11 (.take 12 (.alt 1 (.alt 3 (.alt 6 (.alt 8 (.alt 10 (.alt 13 (.take 14 .done) .stop) .stop) (.alt 10 (.alt 8 (.alt 13 (.take 14 .done) .stop) .stop) .stop)) (.alt 8 (.alt 6 (.alt 10 (.alt 13 (.take 14 .done) .stop) .stop) (.alt 10 (.alt 6 (.alt 13 (.take 14 .done) .stop) .stop) .stop)) (.alt 10 (.alt 6 (.alt 8 (.alt 13 (.take 14 .done) .stop) .stop) (.alt 8 (.alt 6 (.alt 13 (.take 14 .done) .stop) .stop) .stop)) .stop))) (.alt 8 (.alt 3 (.alt 6 (.alt 10 (.alt 13 (.take 14 .done) .stop) .stop) (.alt 10 (.alt 6 (.alt 13 (.take 14 .done) .stop) .stop) .stop)) (.alt 10 (.alt 3 (.alt 6 (.alt 13 (.take 14 .done) .stop) .stop) .stop) .stop)) (.alt 10 (.alt 3 (.alt 6 (.alt 8 (.alt 13 (.take 14 .done) .stop) .stop) (.alt 8 (.alt 6 (.alt 13 (.take 14 .done) .stop) .stop) .stop)) (.alt 8 (.alt 3 (.alt 6 (.alt 13 (.take 14 .done) .stop) .stop) .stop) .stop)) .stop))) (.alt 3 (.alt 1 (.alt 6 (.alt 8 (.alt 10 (.alt 13 (.take 14 .done) .stop) .stop) (.alt 10 (.alt 8 (.alt 13 (.take 14 .done) .stop) .stop) .stop)) (.alt 8 (.alt 6 (.alt 10 (.alt 13 (.take 14 .done) .stop) .stop) (.alt 10 (.alt 6 (.alt 13 (.take 14 .done) .stop) .stop) .stop)) (.alt 10 (.alt 6 (.alt 8 (.alt 13 (.take 14 .done) .stop) .stop) (.alt 8 (.alt 6 (.alt 13 (.take 14 .done) .stop) .stop) .stop)) .stop))) (.alt 8 (.alt 1 (.alt 6 (.alt 10 (.alt 13 (.take 14 .done) .stop) .stop) (.alt 10 (.alt 6 (.alt 13 (.take 14 .done) .stop) .stop) .stop)) (.alt 10 (.alt 1 (.alt 6 (.alt 13 (.take 14 .done) .stop) .stop) .stop) .stop)) (.alt 10 (.alt 1 (.alt 6 (.alt 8 (.alt 13 (.take 14 .done) .stop) .stop) (.alt 8 (.alt 6 (.alt 13 (.take 14 .done) .stop) .stop) .stop)) (.alt 8 (.alt 1 (.alt 6 (.alt 13 (.take 14 .done) .stop) .stop) .stop) .stop)) .stop))) (.alt 8 (.alt 1 (.alt 3 (.alt 6 (.alt 10 (.alt 13 (.take 14 .done) .stop) .stop) (.alt 10 (.alt 6 (.alt 13 (.take 14 .done) .stop) .stop) .stop)) (.alt 10 (.alt 3 (.alt 6 (.alt 13 (.take 14 .done) .stop) .stop) .stop) .stop)) (.alt 3 (.alt 1 (.alt 6 (.alt 10 (.alt 13 (.take 14 .done) .stop) .stop) (.alt 10 (.alt 6 (.alt 13 (.take 14 .done) .stop) .stop) .stop)) (.alt 10 (.alt 1 (.alt 6 (.alt 13 (.take 14 .done) .stop) .stop) .stop) .stop)) (.alt 10 (.alt 1 (.alt 3 (.alt 6 (.alt 13 (.take 14 .done) .stop) .stop) .stop) (.alt 3 (.alt 1 (.alt 6 (.alt 13 (.take 14 .done) .stop) .stop) .stop) .stop)) .stop))) (.alt 10 (.alt 1 (.alt 3 (.alt 6 (.alt 8 (.alt 13 (.take 14 .done) .stop) .stop) (.alt 8 (.alt 6 (.alt 13 (.take 14 .done) .stop) .stop) .stop)) (.alt 8 (.alt 3 (.alt 6 (.alt 13 (.take 14 .done) .stop) .stop) .stop) .stop)) (.alt 3 (.alt 1 (.alt 6 (.alt 8 (.alt 13 (.take 14 .done) .stop) .stop) (.alt 8 (.alt 6 (.alt 13 (.take 14 .done) .stop) .stop) .stop)) (.alt 8 (.alt 1 (.alt 6 (.alt 13 (.take 14 .done) .stop) .stop) .stop) .stop)) (.alt 8 (.alt 1 (.alt 3 (.alt 6 (.alt 13 (.take 14 .done) .stop) .stop) .stop) (.alt 3 (.alt 1 (.alt 6 (.alt 13 (.take 14 .done) .stop) .stop) .stop) .stop)) .stop))) .stop))))))))))))
def plGL26v_7 : Plan := (.take 0 (.take 1 (.take 2 (.take 3 (.take 4 (.take 5 (.take 6 (.take 8 (.take 9 (.take 10 (.take 11 (.take 12 (.take 13 (.take 14 (.alt 7 (.alt 15 (.alt 16 (.take 17 (.take 18 (.take 19 (.take 21 (.take 23 (.take 24 (.take 25 (.take 27 (.take 29 (.take 31 (.take 32 (.take 33 (.alt 20 (.alt 22 (.alt 26 (.alt 28 (.alt 30 (.alt 34 (.alt 35 (.take 36 (.take 37 .done)) .stop) .stop) .stop) (.alt 30 (.alt 28 (.alt 34 (.alt 35 (.take 36 (.take 37 .done)) .stop) .stop) .stop) .stop)) (.alt 28 (.alt 26 (.alt 30 (.alt 34 (.alt 35 (.take 36 (.take 37 .done)) .stop) .stop) .stop) (.alt 30 (.alt 26 (.alt 34 (.alt 35 (.take 36 (.take 37 .done)) .stop) .stop) .stop) .stop)) (.alt 30 (.alt 26 (.alt 28 (.alt 34 (.alt 35 (.take 36 (.take 37 .done)) .stop) .stop) .stop) (.alt 28 (.alt 26 (.alt 34 (.alt 35 (.take 36 (.take 37 .done)) .stop) .stop) .stop) .stop)) .stop))) (.alt 28 (.alt 22 (.alt 26 (.alt 30 (.alt 34 (.alt 35 (.take 36 (.take 37 .done)) .stop) .stop) .stop) (.alt 30 (.alt 26 (.alt 34 (.alt 35 (.take 36 (.take 37 .done)) .stop) .stop) .stop) .stop)) (.alt 30 (.alt 22 (.alt 26 (.alt 34 (.alt 35 (.take 36 (.take 37 .done)) .stop) .stop) .stop) .stop) .stop)) (.alt 30 (.alt 22 (.alt 26 (.alt 28 (.alt 34 (.alt 35 (.take 36 (.take 37 .done)) .stop) .stop) .stop) (.alt 28 (.alt 26 (.alt 34 (.alt 35 (.take 36 (.take 37 .done)) .stop) .stop) .stop) .stop)) (.alt 28 (.alt 22 (.alt 26 (.alt 34 (.alt 35 (.take 36 (.take 37 .done)) .stop) .stop) .stop) .stop) .stop)) .stop))) (.alt 22 (.alt 20 (.alt 26 (.alt 28 (.alt 30 (.alt 34 (.alt 35 (.take 36 (.take 37 .done)) .stop) .stop) .stop) (.alt 30 (.alt 28 (.alt 34 (.alt 35 (.take 36 (.take 37 .done)) .stop) .stop) .stop) .stop)) (.alt 28 (.alt 26 (.alt 30 (.alt 34 (.alt 35 (.take 36 (.take 37 .done)) .stop) .stop) .stop) (.alt 30 (.alt 26 (.alt 34 (.alt 35 (.take 36 (.take 37 .done)) .stop) .stop) .stop) .stop)) (.alt 30 (.alt 26 (.alt 28 (.alt 34 (.alt 35 (.take 36 (.take 37 .done)) .stop) .stop) .stop) (.alt 28 (.alt 26 (.alt 34 (.alt 35 (.take 36 (.take 37 .done)) .stop) .stop) .stop) .stop)) .stop))) (.alt 28 (.alt 20 (.alt 26 (.alt 30 (.alt 34 (.alt 35 (.take 36 (.take 37 .done)) .stop) .stop) .stop) (.alt 30 (.alt 26 (.alt 34 (.alt 35 (.take 36 (.take 37 .done)) .stop) .stop) .stop) .stop)) (.alt 30 (.alt 20 (.alt 26 (.alt 34 (.alt 35 (.take 36 (.take 37 .done)) .stop) .stop) .stop) .stop) .stop)) (.alt 30 (.alt 20 (.alt 26 (.alt 28 (.alt 34 (.alt 35 (.take 36 (.take 37 .done)) .stop) .stop) .stop) (.alt 28 (.alt 26 (.alt 34 (.alt 35 (.take 36 (.take 37 .done)) .stop) .stop) .stop) .stop)) (.alt 28 (.alt 20 (.alt 26 (.alt 34 (.alt 35 (.take 36 (.take 37 .done)) .stop) .stop) .stop) .stop) .stop)) .stop))) (.alt 28 (.alt 20 (.alt 22 (.alt 26 (.alt 30 (.alt 34 (.alt 35 (.take 36 (.take 37 .done)) .stop) .stop) .stop) (.alt 30 (.alt 26 (.alt 34 (.alt 35 (.take 36 (.take 37 .done)) .stop) .stop) .stop) .stop)) (.alt 30 (.alt 22 (.alt 26 (.alt 34 (.alt 35 (.take 36 (.take 37 .done)) .stop) .stop) .stop) .stop) .stop)) (.alt 22 (.alt 20 (.alt 26 (.alt 30 (.alt 34 (.alt 35 (.take 36 (.take 37 .done)) .stop) .stop) .stop) (.alt 30 (.alt 26 (.alt 34 (.alt 35 (.take 36 (.take 37 .done)) .stop) .stop) .stop) .stop)) (.alt 30 (.alt 20 (.alt 26 (.alt 34 (.alt 35 (.take 36 (.take 37 .done)) .stop) .stop) .stop) .stop) .stop)) (.alt 30 (.alt 20 (.alt 22 (.alt 26 (.alt 34 (.alt 35 (.take 36 (.take 37 .done)) .stop) .stop) .stop) .stop) (.alt 22 (.alt 20 (.alt 26 (.alt 34 (.alt 35 (.take 36 (.take 37 .done)) .stop) .stop) .stop) .stop) .stop)) .stop))) (.alt 30 (.alt 20 (.alt 22 (.alt 26 (.alt 28 (.alt 34 (.alt 35 (.take 36 (.take 37 .done)) .stop) .stop) .stop) (.alt 28 (.alt 26 (.alt 34 (.alt 35 (.take 36 (.take 37 .done)) .stop) .stop) .stop) .stop)) (.alt 28 (.alt 22 (.alt 26 (.alt 34 (.alt 35 (.take 36 (.take 37 .done)) .stop) .stop) .stop) .stop) .stop)) (.alt 22 (.alt 20 (.alt 26 (.alt 28 (.alt 34 (.alt 35 (.take 36 (.take 37 .done)) .stop) .stop) .stop) (.alt 28 (.alt 26 (.alt 34 (.alt 35 (.take 36 (.take 37 .done)) .stop) .stop) .stop) .stop)) (.alt 28 (.alt 20 (.alt 26 (.alt 34 (.alt 35 (.take 36 (.take 37 .done)) .stop) .stop) .stop) .stop) .stop)) (.alt 28 (.alt 20 (.alt 22 (.alt 26 (.alt 34 (.alt 35 (.take 36 (.take 37 .done)) .stop) .stop) .stop) .stop) (.alt 22 (.alt 20 (.alt 26 (.alt 34 (.alt 35 (.take 36 (.take 37 .done)) .stop) .stop) .stop) .stop) .stop)) .stop))) .stop)))))))))))))))) .stop) .stop) .stop)))))))))))))))
structure SdsOk (sd : List Sed) : Prop where
  len : sd.length ≤ 20
  marks : ∀ (k : Nat) (y : Sed), sd[k]? = some y → y.marks.length ≤ 17592186044416
theorem stp_marks {l : List Mrk} {s : List Scr} {ps : List Pap} {sd : List Sed} (H : StpOk l s ps sd) {k : Nat} {y : Sed} (h : sd[k]? = some y) : 1 ≤ y.marks.length ∧ y.marks.length ≤ 3 := by
  obtain ⟨j, x, q, hx, hn, hp, hm⟩ := H.sds y (List.mem_of_getElem? h)
  obtain ⟨i, hi⟩ := List.getElem?_of_mem (List.mem_of_find?_eq_some hp)
  have := H.pap i q hi
  have h1 := hm.1
  have := this.2.2.1
  have := (H.pap i q hi).2.2.2.1
  omega
theorem le_nilAgg {tt : Nat} {s : St} (i j z : Nat) {cs : List AV} (h : s.slot i = .agg cs) (hj : cs[j]? = some .nil) : Le tt s (s.put i (.agg (cs.set j (.lst z [])))) := fun w0 G a w S => by
  have hu := S.slot i
  rw [h] at hu
  obtain ⟨us, h1, h2⟩ := (show ∃ us : List Value, Act.at w0 a i = .agg us.toArray ∧ All2 (RC w0.B G w) cs us from hu)
  refine ⟨G, S.know (v := .agg (cs.set j (.lst z []))) ⟨us, h1, ?_⟩⟩
  obtain ⟨u, k1, k2⟩ := h2.get hj
  have k3 : u = .slice none 0 0 := k2
  subst k3
  have hset := h2.set j (a := .lst z []) (b := .slice none 0 0) (RepV.nil z _ _)
  rwa [show us.set j (.slice none 0 0) = us by
    refine List.ext_getElem? fun k => ?_
    rw [List.getElem?_set]
    split
    · next e => subst e; rw [k1, if_pos (List.getElem?_eq_some_iff.1 k1).1]
    · rfl] at hset
/-- Behind a test both ways go on alike: what follows is gone through once. -/
theorem branch_cutF {α : Type} {b : Bool} {A B : Prop} {K : St → Prop} {s : St} (st : α → St) (I : α → Prop) (a0 : α) (hB : rest TT K s → B) (h0 : I a0) (hle : Le TT s (st a0)) (h : ∀ a, I a → K (st a)) (hA : Hid (∀ s a, I a → Le TT s (st a) → rest TT K s) → b = true → A) : branch b A B :=
  branch_i (fun hb => hA ⟨fun s a ha hle => rest_i (st a) hle (h a ha)⟩ hb) fun _ => hB (rest_i (st a0) hle (h a0 h0))
theorem sds_of {l : List Mrk} {s : List Scr} {ps : List Pap} {sd : List Sed} (H : StpOk l s ps sd) : SdsOk sd := ⟨by have := H.sdl; have := H.s8; omega, fun k y h => by have := (stp_marks H h).2; omega⟩
theorem sds_set {sd : List Sed} (h : SdsOk sd) (k : Nat) (y : Sed) (hy : y.marks.length ≤ 17592186044416) : SdsOk (sd.set k y) := ⟨by rw [List.length_set]; exact h.len, fun j x hx => by
  rw [List.getElem?_set] at hx
  split at hx
  · split at hx
    · injection hx with hx; rw [← hx]; exact hy
    · cases hx
  · exact h.marks j x hx⟩
def defA (sd : List Sed) (n : Int) : List Int := match defF sd n with | some x => x.marks | none => []
theorem def_eq {sd : List Sed} {n : Int} : defV sd n = .tup [ints (defA sd n), .bool (defF sd n).isSome] := by
  unfold defV defA
  cases defF sd n <;> rfl
theorem def_len {sd : List Sed} (h : SdsOk sd) {n : Int} : (defA sd n).length ≤ 17592186044416 := by
  unfold defA
  cases hf : defF sd n with
  | none => simp
  | some x =>
    obtain ⟨k, hk⟩ := List.getElem?_of_mem (List.mem_of_find?_eq_some hf)
    exact h.marks k x hk
theorem ept_u {t : Tg} {k : Nat} {a b : AV} : AV.ept t k 0 [a, bif Nat.beq k k then .undef else b] = .ept t k 0 [a, .undef] := by rw [Nat.beq_refl]; rfl
theorem mpt_u {k : Nat} {e : Nat} {m : List Int} {z : Int} {a b : AV} : AV.mpt 60 (k * 2 + 1) e 1 (bif (k * 2 + 1).beq (k * [a, b].length + (0 + 1)) then storeRow (Int.toNat 0) 0 (.int .i64 z) (some (m.map encI)) else some (m.map encI)) = .mpt 60 (k * 2 + 1) e 1 (some ((m.set 0 z).map encI)) := by
  rw [show (k * 2 + 1).beq (k * [a, b].length + (0 + 1)) = true from Nat.beq_refl _]
  simp only [cond_true]
  congr 2
  cases m <;> rfl
theorem sed_u {sd : List Sed} {k : Nat} {b0 : Sed} {m : List Int} (h : sd[k]? = some b0) : AV.lst 2 (((sd.map encSd).modify k fun x => x.set 1 .undef).modify k fun x => x.set 1 (.lst 1 (m.map encI))) = sedsV (sd.set k ⟨b0.script, m⟩) := by
  unfold sedsV
  congr 1
  refine List.ext_getElem? fun j => ?_
  rw [List.getElem?_modify, List.getElem?_modify, List.getElem?_map, List.getElem?_map, List.getElem?_set]
  by_cases hj : k = j
  · subst hj
    have hl := (List.getElem?_eq_some_iff.1 h).1
    simp [h, hl, encSd]
    exact ⟨by rw [(List.getElem?_eq_some_iff.1 h).2], rfl⟩
  · simp [hj]
set_option maxHeartbeats 8000000 in
theorem exact26_law (xs : List Int) (ts0 : List (Int × Int)) (rs : List Sed) (every id : Int) (he64 : -9223372036854775808 ≤ every ∧ every ≤ 9223372036854775807) (hid64 : -9223372036854775808 ≤ id ∧ id ≤ 9223372036854775807) (hts : ts0.length ≤ 9223372036854775807) (hrs : rs.length ≤ 9223372036854775807) (hrm : ∀ (k : Nat) (y : Sed), rs[k]? = some y → y.marks.length ≤ 17592186044416) : Good Try.prog TT false 3 [ints xs, tasksV ts0, sedsV rs, .int .i64 every, .int .i64 id] (· = .bool true) := by
  have LT : (ts0.map encT).length = ts0.length := List.length_map ..
  have LR : (rs.map encSd).length = rs.length := List.length_map ..
  by_cases h600 : xs.length ≤ 600 ∧ ts0.length ≤ 60 ∧ rs.length ≤ 20
  · refine good_of_c (fun i => Nat.beq i 10 || Nat.beq i 11) mixed tabOk Try.func3 rfl rfl Try.ntmps3 Try.results3 rfl rfl ?_
    (conv => whnf); (repeat' (first | (refine arith_i ⟨by omega, by omega⟩ ?_; conv => whnf) | (refine arith_u ⟨by omega, by omega⟩ ?_; conv => whnf) | (refine arith_8 ⟨by omega, by omega⟩ ?_; conv => whnf) | (refine need_i (by first | omega | (simp only [List.length_cons, List.length_nil]; omega) | (simp only [List.length_append, List.length_cons, List.length_nil, List.length_map, List.length_replicate, List.length_modify]; omega)) ?_; conv => whnf) | ((with_reducible first | refine branch_tt ?_ | refine branch_ff ?_); conv => whnf) | (with_reducible refine branch_not ?_) | ((refine call_e ((light_ok xs).mono fun r h => h.trans (bool_eq (decide_eq_true (by omega) : _ = true))) ?_); conv => whnf) | ((refine call_e (roll_ok xs h600.1) ?_); conv => whnf) | ((with_reducible first | refine slc_e ?_ | refine callS_a ?_ | refine bld_a ?_ | refine own_e ?_ | refine mkmap_b ?_ | refine lnk_a ?_); conv => whnf) | ((with_reducible first | refine branch_d (fun hq => ?_) (fun hq => ?_) | refine branch_e (fun hq => ?_) (fun hq => ?_) | refine branch_n (fun hq => ?_) (fun hq => ?_) | refine branch_i (fun hq => ?_) (fun hq => ?_)) <;> (try (exfalso; omega)) <;> (conv => whnf))))
    refine call_i setup_ok fun r hr => ?_
    obtain ⟨l, s, ps, es, sd, m1, m2, m3, m4, rfl, H⟩ := hr
    have LS : (s.map encR).length = s.length := List.length_map ..
    have LL : (l.map encM).length = l.length := List.length_map ..
    have LD : (sd.map encSd).length = sd.length := List.length_map ..
    have hs8 := H.s8
    have hsdl := H.sdl
    conv => whnf
    refine branch_cutF (fun sv : List Sed => mkSt [(1, tasksV ts0), (2, sedsV rs), (3, .int .i64 every), (4, .int .i64 id), (11, .tape), (12, .ptr 12 0), (13, sedsV sv)] [(12, stpV l s ps es sd m1 m2 m3 m4)] true) SdsOk sd (fun h => branch_ff (branch_ff (branch_ff h))) (sds_of H) (le_mk ⟨rfl, rfl, rfl, rfl, rfl, rfl, rfl, trivial⟩ ⟨rfl, trivial⟩ rfl) (fun sv hsv => ?_) (fun hid hq => ?_)
    · conv => whnf
      (conv => whnf); (repeat' (first | (refine arith_i ⟨by omega, by omega⟩ ?_; conv => whnf) | (refine arith_u ⟨by omega, by omega⟩ ?_; conv => whnf) | (refine arith_8 ⟨by omega, by omega⟩ ?_; conv => whnf) | (refine need_i (by first | omega | (simp only [List.length_cons, List.length_nil]; omega) | (simp only [List.length_append, List.length_cons, List.length_nil, List.length_map, List.length_replicate, List.length_modify]; omega)) ?_; conv => whnf) | ((with_reducible first | refine branch_tt ?_ | refine branch_ff ?_); conv => whnf) | (with_reducible refine branch_not ?_) | (((refine call_i ((rAllocate_ok l s 1 H.mks H.scs).mono fun r h => all_any H.mks H.scs h) fun r hr => ?_; obtain ⟨ts, e, rfl, hts, htb⟩ := hr)); conv => whnf) | ((with_reducible first | refine slc_e ?_ | refine callS_a ?_ | refine bld_a ?_ | refine own_e ?_ | refine mkmap_b ?_ | refine lnk_a ?_); conv => whnf) | ((with_reducible first | refine branch_d (fun hq => ?_) (fun hq => ?_) | refine branch_e (fun hq => ?_) (fun hq => ?_) | refine branch_n (fun hq => ?_) (fun hq => ?_) | refine branch_i (fun hq => ?_) (fun hq => ?_)) <;> (try (exfalso; omega)) <;> (conv => whnf))))
      refine loop_i (fun i : Nat => i ≤ s.length) (fun i => mkSt [(1, tasksV ts0), (2, sedsV rs), (3, .int .i64 every), (4, .int .i64 id), (11, .tape), (12, .ptr 12 0), (13, sedsV sv), (15, tasksV ts), (92, scrsV s), (93, .int .i64 s.length), (94, .int .i64 i)] [(12, stpV l s ps es sd m1 m2 m3 m4)] true) (fun i => s.length - i) 0 (Nat.zero_le _) (le_mk ⟨rfl, rfl, rfl, rfl, rfl, rfl, rfl, rfl, rfl, int_eq (by rw [LS]), rfl, trivial⟩ ⟨rfl, trivial⟩ rfl) ?_
      intro i hi
      rcases Nat.lt_or_ge i s.length with hil | hil
      · obtain ⟨x, hx⟩ : ∃ x, s[i]? = some x := ⟨_, List.getElem?_eq_getElem hil⟩
        have hpg : x.pages.length ≤ 1000000 := Nat.le_trans (H.scs.all i x hx).2 (by decide)
        have hVE := viewsEq_ok [⟨i, x.paper, x.variant, x.pages⟩, ⟨id, x.paper, x.variant, x.pages⟩] (show 2 ≤ 1000000 by decide) (fun k v hv => by
          match k, hv with
          | 0, hv => injection hv with hv; rw [← hv]; exact hpg
          | 1, hv => injection hv with hv; rw [← hv]; exact hpg)
        (conv => whnf); (repeat' (first | (refine arith_i ⟨by omega, by omega⟩ ?_; conv => whnf) | (refine arith_u ⟨by omega, by omega⟩ ?_; conv => whnf) | (refine arith_8 ⟨by omega, by omega⟩ ?_; conv => whnf) | (refine need_i (by first | omega | (simp only [List.length_cons, List.length_nil]; omega) | (simp only [List.length_append, List.length_cons, List.length_nil, List.length_map, List.length_replicate, List.length_modify]; omega)) ?_; conv => whnf) | ((with_reducible first | refine branch_tt ?_ | refine branch_ff ?_); conv => whnf) | (with_reducible refine branch_not ?_) | ((refine idx_cs hx ?_); conv => whnf) | ((refine call_e (see_ok x _ hpg) ?_); conv => whnf) | ((refine call_e (rSee_ok x _ hpg) ?_); conv => whnf) | ((refine call_e hVE ?_); conv => whnf) | ((with_reducible first | refine slc_e ?_ | refine callS_a ?_ | refine bld_a ?_ | refine own_e ?_ | refine mkmap_b ?_ | refine lnk_a ?_); conv => whnf) | (refine draw_i 9 plGL26v_0 (by decide +kernel) ?_; (conv => whnf); fail_if_success (guard_target =~ False)) | (refine draw_i 8 plGL26v_1 (by decide +kernel) ?_; (conv => whnf); fail_if_success (guard_target =~ False)) | (refine draw_i 16 plGL26v_2 (by decide +kernel) ?_; (conv => whnf); fail_if_success (guard_target =~ False)) | (refine draw_i 10 plGL26v_3 (by decide +kernel) ?_; (conv => whnf); fail_if_success (guard_target =~ False)) | (refine draw_i 10 plGL26v_4 (by decide +kernel) ?_; (conv => whnf); fail_if_success (guard_target =~ False)) | (refine draw_i 15 plGL26v_5 (by decide +kernel) ?_; (conv => whnf); fail_if_success (guard_target =~ False)) | (refine draw_i 15 plGL26v_6 (by decide +kernel) ?_; (conv => whnf); fail_if_success (guard_target =~ False)) | (refine draw_i 38 plGL26v_7 (by decide +kernel) ?_; (conv => whnf); fail_if_success (guard_target =~ False)) | ((with_reducible refine And.intro ?_ ?_) <;> (conv => whnf)) | (with_reducible exact trivial) | ((with_reducible first | refine branch_d (fun hq => ?_) (fun hq => ?_) | refine branch_e (fun hq => ?_) (fun hq => ?_) | refine branch_n (fun hq => ?_) (fun hq => ?_) | refine branch_i (fun hq => ?_) (fun hq => ?_)) <;> (try (exfalso; omega)) <;> (conv => whnf))))
        all_goals first | exact ⟨i + 1, by omega, (le_mk (by repeat' (first | exact trivial | rfl | apply And.intro)) (by repeat' (first | exact trivial | rfl | apply And.intro)) rfl), by omega⟩ | (exfalso; simp at hq; done)
      · (conv => whnf); (repeat' (first | (refine arith_i ⟨by omega, by omega⟩ ?_; conv => whnf) | (refine arith_u ⟨by omega, by omega⟩ ?_; conv => whnf) | (refine arith_8 ⟨by omega, by omega⟩ ?_; conv => whnf) | (refine need_i (by first | omega | (simp only [List.length_cons, List.length_nil]; omega) | (simp only [List.length_append, List.length_cons, List.length_nil, List.length_map, List.length_replicate, List.length_modify]; omega)) ?_; conv => whnf) | ((with_reducible first | refine branch_tt ?_ | refine branch_ff ?_); conv => whnf) | (with_reducible refine branch_not ?_) | (((refine call_i (next_ok _ (by omega)) fun r hr => ?_; obtain ⟨n0, rfl, -, hn0⟩ := hr; replace hn0 := hn0 (by omega))); conv => whnf) | ((with_reducible first | refine slc_e ?_ | refine callS_a ?_ | refine bld_a ?_ | refine own_e ?_ | refine mkmap_b ?_ | refine lnk_a ?_); conv => whnf) | ((with_reducible first | refine branch_d (fun hq => ?_) (fun hq => ?_) | refine branch_e (fun hq => ?_) (fun hq => ?_) | refine branch_n (fun hq => ?_) (fun hq => ?_) | refine branch_i (fun hq => ?_) (fun hq => ?_)) <;> (try (exfalso; omega)) <;> (conv => whnf))))
        obtain ⟨K, hK0, hK1, hK2, hK3⟩ : ∃ K : Nat → Int, K 0 = every ∧ K 1 = 1 ∧ K 2 = 2 ∧ K 3 = n0 - 1 := ⟨nth [every, 1, 2, n0 - 1], rfl, rfl, rfl, rfl⟩
        have hKb : ∀ j, j < 4 → -9223372036854775808 ≤ K j ∧ K j ≤ 9223372036854775807 := fun j hj => by
          rcases (show j = 0 ∨ j = 1 ∨ j = 2 ∨ j = 3 by omega) with rfl | rfl | rfl | rfl <;> omega
        have hKf : ∀ j, j < 4 → ([AV.int .i64 (K 0), .int .i64 (K 1), .int .i64 (K 2), .int .i64 (K 3)] : List AV)[j]? = some (.int .i64 (K j)) := fun j hj => by
          rcases (show j = 0 ∨ j = 1 ∨ j = 2 ∨ j = 3 by omega) with rfl | rfl | rfl | rfl <;> rfl
        refine loop_i (fun i : Nat => i ≤ 4) (fun i => mkSt [(1, tasksV ts0), (2, sedsV rs), (4, .int .i64 id), (11, .tape), (12, .ptr 12 0), (13, sedsV sv), (15, tasksV ts), (120, .agg [.int .i64 (K 0), .int .i64 (K 1), .int .i64 (K 2), .int .i64 (K 3)]), (121, .int .i64 i)] [(12, stpV l s ps es sd m1 m2 m3 m4)] true) (fun i => 4 - i) 0 (by decide) (le_mk ⟨rfl, rfl, rfl, rfl, rfl, rfl, rfl, by rw [hK0, hK1, hK2, hK3]; rfl, rfl, trivial⟩ ⟨rfl, trivial⟩ rfl) ?_
        clear hn0 hK0 hK1 hK2 hK3 hi hil
        intro i hi
        rcases Nat.lt_or_ge i 4 with hil | hil
        · have hkb := hKb i hil
          have hcl : (commF s (K i)).length ≤ 17592186044416 := Nat.le_trans commF_len (by omega)
          (conv => whnf); (repeat' (first | (refine arith_i ⟨by omega, by omega⟩ ?_; conv => whnf) | (refine arith_u ⟨by omega, by omega⟩ ?_; conv => whnf) | (refine arith_8 ⟨by omega, by omega⟩ ?_; conv => whnf) | (refine need_i (by first | omega | (simp only [List.length_cons, List.length_nil]; omega) | (simp only [List.length_append, List.length_cons, List.length_nil, List.length_map, List.length_replicate, List.length_modify]; omega)) ?_; conv => whnf) | ((with_reducible first | refine branch_tt ?_ | refine branch_ff ?_); conv => whnf) | (with_reducible refine branch_not ?_) | (((refine aget_f (fun j => .int .i64 (K j)) (by omega) (by omega) hKf ?_)); conv => whnf) | ((refine call_e (common_ok s (K i) H.scs (by omega)) ?_); conv => whnf) | ((refine call_e (rCommon_ok s (K i) H.scs) ?_); conv => whnf) | ((refine call_e (same26_refl (commF s (K i)) hcl) ?_); conv => whnf) | ((with_reducible first | refine slc_e ?_ | refine callS_a ?_ | refine bld_a ?_ | refine own_e ?_ | refine mkmap_b ?_ | refine lnk_a ?_); conv => whnf) | (refine draw_i 9 plGL26v_0 (by decide +kernel) ?_; (conv => whnf); fail_if_success (guard_target =~ False)) | (refine draw_i 8 plGL26v_1 (by decide +kernel) ?_; (conv => whnf); fail_if_success (guard_target =~ False)) | (refine draw_i 16 plGL26v_2 (by decide +kernel) ?_; (conv => whnf); fail_if_success (guard_target =~ False)) | (refine draw_i 10 plGL26v_3 (by decide +kernel) ?_; (conv => whnf); fail_if_success (guard_target =~ False)) | (refine draw_i 10 plGL26v_4 (by decide +kernel) ?_; (conv => whnf); fail_if_success (guard_target =~ False)) | (refine draw_i 15 plGL26v_5 (by decide +kernel) ?_; (conv => whnf); fail_if_success (guard_target =~ False)) | (refine draw_i 15 plGL26v_6 (by decide +kernel) ?_; (conv => whnf); fail_if_success (guard_target =~ False)) | (refine draw_i 38 plGL26v_7 (by decide +kernel) ?_; (conv => whnf); fail_if_success (guard_target =~ False)) | ((with_reducible refine And.intro ?_ ?_) <;> (conv => whnf)) | (with_reducible exact trivial) | ((with_reducible first | refine branch_d (fun hq => ?_) (fun hq => ?_) | refine branch_e (fun hq => ?_) (fun hq => ?_) | refine branch_n (fun hq => ?_) (fun hq => ?_) | refine branch_i (fun hq => ?_) (fun hq => ?_)) <;> (try (exfalso; omega)) <;> (conv => whnf))))
          obtain ⟨Y, hY0, hY1, hY2⟩ : ∃ Y : Nat → List Sed, Y 0 = sv ∧ Y 1 = rs ∧ Y 2 = [] := ⟨fun j => if j = 0 then sv else if j = 1 then rs else [], rfl, rfl, rfl⟩
          have hYb : ∀ j, j < 3 → SdsOk (Y j) := fun j hj => by
            rcases (show j = 0 ∨ j = 1 ∨ j = 2 by omega) with rfl | rfl | rfl
            · rw [hY0]; exact hsv
            · rw [hY1]; exact ⟨h600.2.2, hrm⟩
            · rw [hY2]; exact ⟨by decide, fun k y h => by simp at h⟩
          have hYf : ∀ j, j < 3 → ([sedsV (Y 0), sedsV (Y 1), sedsV (Y 2)] : List AV)[j]? = some (sedsV (Y j)) := fun j hj => by
            rcases (show j = 0 ∨ j = 1 ∨ j = 2 by omega) with rfl | rfl | rfl <;> rfl
          refine loop_i (fun j : Nat => j ≤ 3) (fun j => mkSt [(1, tasksV ts0), (2, sedsV rs), (4, .int .i64 id), (11, .tape), (12, .ptr 12 0), (13, sedsV sv), (15, tasksV ts), (20, .int .i64 (K i)), (120, .agg [.int .i64 (K 0), .int .i64 (K 1), .int .i64 (K 2), .int .i64 (K 3)]), (121, .int .i64 i), (136, .agg [sedsV (Y 0), sedsV (Y 1), sedsV (Y 2)]), (137, .int .i64 j)] [(12, stpV l s ps es sd m1 m2 m3 m4)] true) (fun j => 3 - j) 0 (by decide) (Le.trans (le_nilAgg 136 2 2 rfl rfl) (le_mk ⟨rfl, rfl, rfl, rfl, rfl, rfl, rfl, rfl, rfl, rfl, by rw [hY0, hY1, hY2]; rfl, rfl, trivial⟩ ⟨rfl, trivial⟩ rfl)) ?_
          clear hY0 hY1 hY2
          intro j hj
          rcases Nat.lt_or_ge j 3 with hjl | hjl
          · have hY := hYb j hjl
            have hYl : (Y j).length ≤ 1000 := Nat.le_trans hY.len (by decide)
            have hp3 := H.p3
            have hpl : ps.length ≤ 1000 := by omega
            have hpo : ∀ (k : Nat) (p : Pap), ps[k]? = some p → p.parts.length ≤ 1000 := fun k p h => by have := (H.pap k p h).2.2.2.1; omega
            have hD1 := fun n => (definitive_ok (Y j) n hYl hY.marks).mono fun r h => h.trans def_eq
            have hD2 := fun n => (rDefinitive_ok (Y j) n hYl hY.marks).mono fun r h => h.trans def_eq
            (conv => whnf); (repeat' (first | (refine arith_i ⟨by omega, by omega⟩ ?_; conv => whnf) | (refine arith_u ⟨by omega, by omega⟩ ?_; conv => whnf) | (refine arith_8 ⟨by omega, by omega⟩ ?_; conv => whnf) | (refine need_i (by first | omega | (simp only [List.length_cons, List.length_nil]; omega) | (simp only [List.length_append, List.length_cons, List.length_nil, List.length_map, List.length_replicate, List.length_modify]; omega)) ?_; conv => whnf) | ((with_reducible first | refine branch_tt ?_ | refine branch_ff ?_); conv => whnf) | (with_reducible refine branch_not ?_) | (((refine aget_f (fun j => sedsV (Y j)) (by omega) (by omega) hYf ?_)); conv => whnf) | ((refine call_e (sCheck_ok s ps (K i) (Y j) H.scs hpl hpo hYl hY.marks (by omega)) ?_); conv => whnf) | ((refine call_e (rCheck26_ok s ps (K i) (Y j) H.scs hpl hpo hYl hY.marks) ?_); conv => whnf) | (((refine call_i (next_ok _ (by omega)) fun r hr => ?_; obtain ⟨z, rfl, -, hz⟩ := hr; replace hz := hz (by omega))); conv => whnf) | ((refine call_e (hD1 _) ?_); conv => whnf) | ((refine call_e (hD2 _) ?_); conv => whnf) | ((refine call_e (same26_refl (defA (Y j) _) (def_len hY)) ?_); conv => whnf) | ((with_reducible first | refine slc_e ?_ | refine callS_a ?_ | refine bld_a ?_ | refine own_e ?_ | refine mkmap_b ?_ | refine lnk_a ?_); conv => whnf) | (refine draw_i 9 plGL26v_0 (by decide +kernel) ?_; (conv => whnf); fail_if_success (guard_target =~ False)) | (refine draw_i 8 plGL26v_1 (by decide +kernel) ?_; (conv => whnf); fail_if_success (guard_target =~ False)) | (refine draw_i 16 plGL26v_2 (by decide +kernel) ?_; (conv => whnf); fail_if_success (guard_target =~ False)) | (refine draw_i 10 plGL26v_3 (by decide +kernel) ?_; (conv => whnf); fail_if_success (guard_target =~ False)) | (refine draw_i 10 plGL26v_4 (by decide +kernel) ?_; (conv => whnf); fail_if_success (guard_target =~ False)) | (refine draw_i 15 plGL26v_5 (by decide +kernel) ?_; (conv => whnf); fail_if_success (guard_target =~ False)) | (refine draw_i 15 plGL26v_6 (by decide +kernel) ?_; (conv => whnf); fail_if_success (guard_target =~ False)) | (refine draw_i 38 plGL26v_7 (by decide +kernel) ?_; (conv => whnf); fail_if_success (guard_target =~ False)) | ((with_reducible refine And.intro ?_ ?_) <;> (conv => whnf)) | (with_reducible exact trivial) | ((with_reducible first | refine branch_d (fun hq => ?_) (fun hq => ?_) | refine branch_e (fun hq => ?_) (fun hq => ?_) | refine branch_n (fun hq => ?_) (fun hq => ?_) | refine branch_i (fun hq => ?_) (fun hq => ?_)) <;> (try (exfalso; omega)) <;> (conv => whnf))))
            · exact ⟨j + 1, by omega, (le_mk (by repeat' (first | exact trivial | rfl | apply And.intro)) (by repeat' (first | exact trivial | rfl | apply And.intro)) rfl), by omega⟩
            all_goals (exfalso; simp at hq; done)
          · (conv => whnf); (repeat' (first | (refine arith_i ⟨by omega, by omega⟩ ?_; conv => whnf) | (refine arith_u ⟨by omega, by omega⟩ ?_; conv => whnf) | (refine arith_8 ⟨by omega, by omega⟩ ?_; conv => whnf) | (refine need_i (by first | omega | (simp only [List.length_cons, List.length_nil]; omega) | (simp only [List.length_append, List.length_cons, List.length_nil, List.length_map, List.length_replicate, List.length_modify]; omega)) ?_; conv => whnf) | ((with_reducible first | refine branch_tt ?_ | refine branch_ff ?_); conv => whnf) | (with_reducible refine branch_not ?_) | ((with_reducible first | refine slc_e ?_ | refine callS_a ?_ | refine bld_a ?_ | refine own_e ?_ | refine mkmap_b ?_ | refine lnk_a ?_); conv => whnf) | (refine draw_i 9 plGL26v_0 (by decide +kernel) ?_; (conv => whnf); fail_if_success (guard_target =~ False)) | (refine draw_i 8 plGL26v_1 (by decide +kernel) ?_; (conv => whnf); fail_if_success (guard_target =~ False)) | (refine draw_i 16 plGL26v_2 (by decide +kernel) ?_; (conv => whnf); fail_if_success (guard_target =~ False)) | (refine draw_i 10 plGL26v_3 (by decide +kernel) ?_; (conv => whnf); fail_if_success (guard_target =~ False)) | (refine draw_i 10 plGL26v_4 (by decide +kernel) ?_; (conv => whnf); fail_if_success (guard_target =~ False)) | (refine draw_i 15 plGL26v_5 (by decide +kernel) ?_; (conv => whnf); fail_if_success (guard_target =~ False)) | (refine draw_i 15 plGL26v_6 (by decide +kernel) ?_; (conv => whnf); fail_if_success (guard_target =~ False)) | (refine draw_i 38 plGL26v_7 (by decide +kernel) ?_; (conv => whnf); fail_if_success (guard_target =~ False)) | ((with_reducible refine And.intro ?_ ?_) <;> (conv => whnf)) | (with_reducible exact trivial) | ((with_reducible first | refine branch_d (fun hq => ?_) (fun hq => ?_) | refine branch_e (fun hq => ?_) (fun hq => ?_) | refine branch_n (fun hq => ?_) (fun hq => ?_) | refine branch_i (fun hq => ?_) (fun hq => ?_)) <;> (try (exfalso; omega)) <;> (conv => whnf))))
            obtain ⟨X, hX0, hX1⟩ : ∃ X : Nat → List (Int × Int), X 0 = ts ∧ X 1 = ts0 := ⟨fun j => if j = 0 then ts else ts0, rfl, rfl⟩
            have hXb : ∀ j, j < 2 → (X j).length ≤ 1000 := fun j hj => by
              rcases (show j = 0 ∨ j = 1 by omega) with rfl | rfl
              · rw [hX0]; omega
              · rw [hX1]; omega
            have hXf : ∀ j, j < 2 → ([tasksV (X 0), tasksV (X 1)] : List AV)[j]? = some (tasksV (X j)) := fun j hj => by
              rcases (show j = 0 ∨ j = 1 by omega) with rfl | rfl <;> rfl
            refine loop_i (fun j : Nat => j ≤ 2) (fun j => mkSt [(1, tasksV ts0), (2, sedsV rs), (4, .int .i64 id), (11, .tape), (12, .ptr 12 0), (13, sedsV sv), (15, tasksV ts), (20, .int .i64 (K i)), (120, .agg [.int .i64 (K 0), .int .i64 (K 1), .int .i64 (K 2), .int .i64 (K 3)]), (121, .int .i64 i), (181, .agg [tasksV (X 0), tasksV (X 1)]), (182, .int .i64 j)] [(12, stpV l s ps es sd m1 m2 m3 m4)] true) (fun j => 2 - j) 0 (by decide) (le_mk ⟨rfl, rfl, rfl, rfl, rfl, rfl, rfl, rfl, rfl, rfl, by rw [hX0, hX1]; rfl, rfl, trivial⟩ ⟨rfl, trivial⟩ rfl) ?_
            clear hX0 hX1 hj hjl
            intro j hj
            rcases Nat.lt_or_ge j 2 with hjl | hjl
            · have hX := hXb j hjl
              (conv => whnf); (repeat' (first | (refine arith_i ⟨by omega, by omega⟩ ?_; conv => whnf) | (refine arith_u ⟨by omega, by omega⟩ ?_; conv => whnf) | (refine arith_8 ⟨by omega, by omega⟩ ?_; conv => whnf) | (refine need_i (by first | omega | (simp only [List.length_cons, List.length_nil]; omega) | (simp only [List.length_append, List.length_cons, List.length_nil, List.length_map, List.length_replicate, List.length_modify]; omega)) ?_; conv => whnf) | ((with_reducible first | refine branch_tt ?_ | refine branch_ff ?_); conv => whnf) | (with_reducible refine branch_not ?_) | (((refine aget_f (fun j => tasksV (X j)) (by omega) (by omega) hXf ?_)); conv => whnf) | (((refine call_i (next_ok _ (by omega)) fun r hr => ?_; obtain ⟨n1, rfl, -, hn1⟩ := hr; replace hn1 := hn1 (by omega))); conv => whnf) | ((with_reducible first | refine slc_e ?_ | refine callS_a ?_ | refine bld_a ?_ | refine own_e ?_ | refine mkmap_b ?_ | refine lnk_a ?_); conv => whnf) | (refine draw_i 9 plGL26v_0 (by decide +kernel) ?_; (conv => whnf); fail_if_success (guard_target =~ False)) | (refine draw_i 8 plGL26v_1 (by decide +kernel) ?_; (conv => whnf); fail_if_success (guard_target =~ False)) | (refine draw_i 16 plGL26v_2 (by decide +kernel) ?_; (conv => whnf); fail_if_success (guard_target =~ False)) | (refine draw_i 10 plGL26v_3 (by decide +kernel) ?_; (conv => whnf); fail_if_success (guard_target =~ False)) | (refine draw_i 10 plGL26v_4 (by decide +kernel) ?_; (conv => whnf); fail_if_success (guard_target =~ False)) | (refine draw_i 15 plGL26v_5 (by decide +kernel) ?_; (conv => whnf); fail_if_success (guard_target =~ False)) | (refine draw_i 15 plGL26v_6 (by decide +kernel) ?_; (conv => whnf); fail_if_success (guard_target =~ False)) | (refine draw_i 38 plGL26v_7 (by decide +kernel) ?_; (conv => whnf); fail_if_success (guard_target =~ False)) | ((with_reducible refine And.intro ?_ ?_) <;> (conv => whnf)) | (with_reducible exact trivial) | ((with_reducible first | refine branch_d (fun hq => ?_) (fun hq => ?_) | refine branch_e (fun hq => ?_) (fun hq => ?_) | refine branch_n (fun hq => ?_) (fun hq => ?_) | refine branch_i (fun hq => ?_) (fun hq => ?_)) <;> (try (exfalso; omega)) <;> (conv => whnf))))
              obtain ⟨M, hM0, hM1⟩ : ∃ M : Nat → Int, M 0 = id ∧ M 1 = 1 + n1 := ⟨nth [id, 1 + n1], rfl, rfl⟩
              have hMf : ∀ j, j < 2 → ([AV.int .i64 (M 0), .int .i64 (M 1)] : List AV)[j]? = some (.int .i64 (M j)) := fun j hj => by
                rcases (show j = 0 ∨ j = 1 by omega) with rfl | rfl <;> rfl
              refine loop_i (fun g : Nat => g ≤ 2) (fun g => mkSt [(1, tasksV ts0), (2, sedsV rs), (4, .int .i64 id), (11, .tape), (12, .ptr 12 0), (13, sedsV sv), (15, tasksV ts), (20, .int .i64 (K i)), (29, tasksV (X j)), (120, .agg [.int .i64 (K 0), .int .i64 (K 1), .int .i64 (K 2), .int .i64 (K 3)]), (121, .int .i64 i), (181, .agg [tasksV (X 0), tasksV (X 1)]), (182, .int .i64 j), (189, .agg [.int .i64 (M 0), .int .i64 (M 1)]), (190, .int .i64 g)] [(12, stpV l s ps es sd m1 m2 m3 m4)] true) (fun g => 2 - g) 0 (by decide) (le_mk ⟨rfl, rfl, rfl, rfl, rfl, rfl, rfl, rfl, rfl, rfl, rfl, rfl, rfl, by rw [hM0, hM1]; rfl, rfl, trivial⟩ ⟨rfl, trivial⟩ rfl) ?_
              clear hM0 hM1 hn1
              intro g hg
              rcases Nat.lt_or_ge g 2 with hgl | hgl
              · have hQ1 := sQueue_ok l s (X j) (K i) (M g) hX H.mks H.scs hkb.2
                have hQ2 := rQueue_ok l s (X j) (K i) (M g) hX H.mks H.scs hkb.2
                rw [← queue_eq H.scs] at hQ2
                have hV1 := views_ok l s (X j) (K i) (M g) hX H.mks H.scs hkb.2
                have hV2 := rViews_ok l s (X j) (K i) (M g) hX H.mks H.scs hkb.2
                rw [viewsL_eq] at hV1 hV2
                have hql := queue_len (l := l) (s := s) (ts := X j) (k := K i) (id := M g) hX H.scs
                have hvl : (vwL s (queueF l s (X j) (K i) (M g))).length ≤ 1000000 := by rw [vwL_len]; omega
                have hE := viewsEq_ok _ hvl (vwL_pages (ns := queueF l s (X j) (K i) (M g)) H.scs)
                have hS := same26_refl (queueF l s (X j) (K i) (M g)) (Nat.le_trans hql (by decide))
                generalize vwL s (queueF l s (X j) (K i) (M g)) = vs at hV1 hV2 hE hvl
                generalize queueF l s (X j) (K i) (M g) = ns at hQ1 hQ2 hS hql
                (conv => whnf); (repeat' (first | (refine arith_i ⟨by omega, by omega⟩ ?_; conv => whnf) | (refine arith_u ⟨by omega, by omega⟩ ?_; conv => whnf) | (refine arith_8 ⟨by omega, by omega⟩ ?_; conv => whnf) | (refine need_i (by first | omega | (simp only [List.length_cons, List.length_nil]; omega) | (simp only [List.length_append, List.length_cons, List.length_nil, List.length_map, List.length_replicate, List.length_modify]; omega)) ?_; conv => whnf) | ((with_reducible first | refine branch_tt ?_ | refine branch_ff ?_); conv => whnf) | (with_reducible refine branch_not ?_) | (((refine aget_f (fun j => .int .i64 (M j)) (by omega) (by omega) hMf ?_)); conv => whnf) | ((refine call_e hQ1 ?_); conv => whnf) | ((refine call_e hQ2 ?_); conv => whnf) | ((refine call_e hS ?_); conv => whnf) | ((refine call_e hV1 ?_); conv => whnf) | ((refine call_e hV2 ?_); conv => whnf) | ((refine call_e hE ?_); conv => whnf) | ((with_reducible first | refine slc_e ?_ | refine callS_a ?_ | refine bld_a ?_ | refine own_e ?_ | refine mkmap_b ?_ | refine lnk_a ?_); conv => whnf) | (refine draw_i 9 plGL26v_0 (by decide +kernel) ?_; (conv => whnf); fail_if_success (guard_target =~ False)) | (refine draw_i 8 plGL26v_1 (by decide +kernel) ?_; (conv => whnf); fail_if_success (guard_target =~ False)) | (refine draw_i 16 plGL26v_2 (by decide +kernel) ?_; (conv => whnf); fail_if_success (guard_target =~ False)) | (refine draw_i 10 plGL26v_3 (by decide +kernel) ?_; (conv => whnf); fail_if_success (guard_target =~ False)) | (refine draw_i 10 plGL26v_4 (by decide +kernel) ?_; (conv => whnf); fail_if_success (guard_target =~ False)) | (refine draw_i 15 plGL26v_5 (by decide +kernel) ?_; (conv => whnf); fail_if_success (guard_target =~ False)) | (refine draw_i 15 plGL26v_6 (by decide +kernel) ?_; (conv => whnf); fail_if_success (guard_target =~ False)) | (refine draw_i 38 plGL26v_7 (by decide +kernel) ?_; (conv => whnf); fail_if_success (guard_target =~ False)) | ((with_reducible refine And.intro ?_ ?_) <;> (conv => whnf)) | (with_reducible exact trivial) | ((with_reducible first | refine branch_d (fun hq => ?_) (fun hq => ?_) | refine branch_e (fun hq => ?_) (fun hq => ?_) | refine branch_n (fun hq => ?_) (fun hq => ?_) | refine branch_i (fun hq => ?_) (fun hq => ?_)) <;> (try (exfalso; omega)) <;> (conv => whnf))))
                all_goals first | exact ⟨g + 1, by omega, (le_mk (by repeat' (first | exact trivial | rfl | apply And.intro)) (by repeat' (first | exact trivial | rfl | apply And.intro)) rfl), by omega⟩ | (exfalso; simp at hq; done)
              · (conv => whnf); (repeat' (first | (refine arith_i ⟨by omega, by omega⟩ ?_; conv => whnf) | (refine arith_u ⟨by omega, by omega⟩ ?_; conv => whnf) | (refine arith_8 ⟨by omega, by omega⟩ ?_; conv => whnf) | (refine need_i (by first | omega | (simp only [List.length_cons, List.length_nil]; omega) | (simp only [List.length_append, List.length_cons, List.length_nil, List.length_map, List.length_replicate, List.length_modify]; omega)) ?_; conv => whnf) | ((with_reducible first | refine branch_tt ?_ | refine branch_ff ?_); conv => whnf) | (with_reducible refine branch_not ?_) | ((with_reducible first | refine slc_e ?_ | refine callS_a ?_ | refine bld_a ?_ | refine own_e ?_ | refine mkmap_b ?_ | refine lnk_a ?_); conv => whnf) | (refine draw_i 9 plGL26v_0 (by decide +kernel) ?_; (conv => whnf); fail_if_success (guard_target =~ False)) | (refine draw_i 8 plGL26v_1 (by decide +kernel) ?_; (conv => whnf); fail_if_success (guard_target =~ False)) | (refine draw_i 16 plGL26v_2 (by decide +kernel) ?_; (conv => whnf); fail_if_success (guard_target =~ False)) | (refine draw_i 10 plGL26v_3 (by decide +kernel) ?_; (conv => whnf); fail_if_success (guard_target =~ False)) | (refine draw_i 10 plGL26v_4 (by decide +kernel) ?_; (conv => whnf); fail_if_success (guard_target =~ False)) | (refine draw_i 15 plGL26v_5 (by decide +kernel) ?_; (conv => whnf); fail_if_success (guard_target =~ False)) | (refine draw_i 15 plGL26v_6 (by decide +kernel) ?_; (conv => whnf); fail_if_success (guard_target =~ False)) | (refine draw_i 38 plGL26v_7 (by decide +kernel) ?_; (conv => whnf); fail_if_success (guard_target =~ False)) | ((with_reducible refine And.intro ?_ ?_) <;> (conv => whnf)) | (with_reducible exact trivial) | ((with_reducible first | refine branch_d (fun hq => ?_) (fun hq => ?_) | refine branch_e (fun hq => ?_) (fun hq => ?_) | refine branch_n (fun hq => ?_) (fun hq => ?_) | refine branch_i (fun hq => ?_) (fun hq => ?_)) <;> (try (exfalso; omega)) <;> (conv => whnf))))
                all_goals first | exact ⟨j + 1, by omega, (le_mk (by repeat' (first | exact trivial | rfl | apply And.intro)) (by repeat' (first | exact trivial | rfl | apply And.intro)) rfl), by omega⟩
            · (conv => whnf); (repeat' (first | (refine arith_i ⟨by omega, by omega⟩ ?_; conv => whnf) | (refine arith_u ⟨by omega, by omega⟩ ?_; conv => whnf) | (refine arith_8 ⟨by omega, by omega⟩ ?_; conv => whnf) | (refine need_i (by first | omega | (simp only [List.length_cons, List.length_nil]; omega) | (simp only [List.length_append, List.length_cons, List.length_nil, List.length_map, List.length_replicate, List.length_modify]; omega)) ?_; conv => whnf) | ((with_reducible first | refine branch_tt ?_ | refine branch_ff ?_); conv => whnf) | (with_reducible refine branch_not ?_) | ((with_reducible first | refine slc_e ?_ | refine callS_a ?_ | refine bld_a ?_ | refine own_e ?_ | refine mkmap_b ?_ | refine lnk_a ?_); conv => whnf) | (refine draw_i 9 plGL26v_0 (by decide +kernel) ?_; (conv => whnf); fail_if_success (guard_target =~ False)) | (refine draw_i 8 plGL26v_1 (by decide +kernel) ?_; (conv => whnf); fail_if_success (guard_target =~ False)) | (refine draw_i 16 plGL26v_2 (by decide +kernel) ?_; (conv => whnf); fail_if_success (guard_target =~ False)) | (refine draw_i 10 plGL26v_3 (by decide +kernel) ?_; (conv => whnf); fail_if_success (guard_target =~ False)) | (refine draw_i 10 plGL26v_4 (by decide +kernel) ?_; (conv => whnf); fail_if_success (guard_target =~ False)) | (refine draw_i 15 plGL26v_5 (by decide +kernel) ?_; (conv => whnf); fail_if_success (guard_target =~ False)) | (refine draw_i 15 plGL26v_6 (by decide +kernel) ?_; (conv => whnf); fail_if_success (guard_target =~ False)) | (refine draw_i 38 plGL26v_7 (by decide +kernel) ?_; (conv => whnf); fail_if_success (guard_target =~ False)) | ((with_reducible refine And.intro ?_ ?_) <;> (conv => whnf)) | (with_reducible exact trivial) | ((with_reducible first | refine branch_d (fun hq => ?_) (fun hq => ?_) | refine branch_e (fun hq => ?_) (fun hq => ?_) | refine branch_n (fun hq => ?_) (fun hq => ?_) | refine branch_i (fun hq => ?_) (fun hq => ?_)) <;> (try (exfalso; omega)) <;> (conv => whnf))))
              all_goals first | exact ⟨i + 1, by omega, (le_mk (by repeat' (first | exact trivial | rfl | apply And.intro)) (by repeat' (first | exact trivial | rfl | apply And.intro)) rfl), by omega⟩
        · (conv => whnf); (repeat' (first | (refine arith_i ⟨by omega, by omega⟩ ?_; conv => whnf) | (refine arith_u ⟨by omega, by omega⟩ ?_; conv => whnf) | (refine arith_8 ⟨by omega, by omega⟩ ?_; conv => whnf) | (refine need_i (by first | omega | (simp only [List.length_cons, List.length_nil]; omega) | (simp only [List.length_append, List.length_cons, List.length_nil, List.length_map, List.length_replicate, List.length_modify]; omega)) ?_; conv => whnf) | ((with_reducible first | refine branch_tt ?_ | refine branch_ff ?_); conv => whnf) | (with_reducible refine branch_not ?_) | ((refine call_e sane26_ok ?_); conv => whnf) | ((with_reducible first | refine slc_e ?_ | refine callS_a ?_ | refine bld_a ?_ | refine own_e ?_ | refine mkmap_b ?_ | refine lnk_a ?_); conv => whnf) | (refine draw_i 9 plGL26v_0 (by decide +kernel) ?_; (conv => whnf); fail_if_success (guard_target =~ False)) | (refine draw_i 8 plGL26v_1 (by decide +kernel) ?_; (conv => whnf); fail_if_success (guard_target =~ False)) | (refine draw_i 16 plGL26v_2 (by decide +kernel) ?_; (conv => whnf); fail_if_success (guard_target =~ False)) | (refine draw_i 10 plGL26v_3 (by decide +kernel) ?_; (conv => whnf); fail_if_success (guard_target =~ False)) | (refine draw_i 10 plGL26v_4 (by decide +kernel) ?_; (conv => whnf); fail_if_success (guard_target =~ False)) | (refine draw_i 15 plGL26v_5 (by decide +kernel) ?_; (conv => whnf); fail_if_success (guard_target =~ False)) | (refine draw_i 15 plGL26v_6 (by decide +kernel) ?_; (conv => whnf); fail_if_success (guard_target =~ False)) | (refine draw_i 38 plGL26v_7 (by decide +kernel) ?_; (conv => whnf); fail_if_success (guard_target =~ False)) | ((with_reducible refine And.intro ?_ ?_) <;> (conv => whnf)) | (with_reducible exact trivial) | ((with_reducible first | refine branch_d (fun hq => ?_) (fun hq => ?_) | refine branch_e (fun hq => ?_) (fun hq => ?_) | refine branch_n (fun hq => ?_) (fun hq => ?_) | refine branch_i (fun hq => ?_) (fun hq => ?_)) <;> (try (exfalso; omega)) <;> (conv => whnf))))
          all_goals first | exact ret_p rfl rfl
    · replace hq := of_decide_eq_true hq
      (conv => whnf); (repeat' (first | (refine arith_i ⟨by omega, by omega⟩ ?_; conv => whnf) | (refine arith_u ⟨by omega, by omega⟩ ?_; conv => whnf) | (refine arith_8 ⟨by omega, by omega⟩ ?_; conv => whnf) | (refine need_i (by first | omega | (simp only [List.length_cons, List.length_nil]; omega) | (simp only [List.length_append, List.length_cons, List.length_nil, List.length_map, List.length_replicate, List.length_modify]; omega)) ?_; conv => whnf) | ((with_reducible first | refine branch_tt ?_ | refine branch_ff ?_); conv => whnf) | (with_reducible refine branch_not ?_) | (((refine call_i (dbool_ok 2 (by omega)) fun r hr => ?_; obtain ⟨bb, rfl⟩ := hr; cases bb <;> (conv => whnf))); conv => whnf) | (((refine call_i (next_ok _ ⟨by omega, by omega⟩) fun r hr => ?_; obtain ⟨y, rfl, -, hy⟩ := hr; replace hy := hy (by omega); obtain ⟨b0, hb0⟩ : ∃ b0, sd[y.toNat]? = some b0 := ⟨_, List.getElem?_eq_getElem (by omega)⟩; have hbm := stp_marks H hb0; have LB : (b0.marks.map encI).length = b0.marks.length := List.length_map ..)); conv => whnf) | ((refine idx_ms (by omega) hb0 ?_); conv => whnf) | (((with_reducible refine lnk_r ?_)); conv => whnf) | ((with_reducible first | refine slc_e ?_ | refine callS_a ?_ | refine bld_a ?_ | refine own_e ?_ | refine mkmap_b ?_ | refine lnk_a ?_); conv => whnf) | ((with_reducible first | refine branch_d (fun hq => ?_) (fun hq => ?_) | refine branch_e (fun hq => ?_) (fun hq => ?_) | refine branch_n (fun hq => ?_) (fun hq => ?_) | refine branch_i (fun hq => ?_) (fun hq => ?_)) <;> (try (exfalso; omega)) <;> (conv => whnf))))
      · exact hid.out _ sd (sds_of H) (le_mk (by repeat' (first | exact trivial | rfl | apply And.intro)) (by repeat' (first | exact trivial | rfl | apply And.intro)) rfl)
      · refine rest_i (mkSt [(1, tasksV ts0), (2, sedsV rs), (3, .int .i64 every), (4, .int .i64 id), (11, .tape), (12, .ptr 12 0), (13, .own (.s 60) 41 2 ((sd.map encSd).modify y.toNat fun x => x.set 1 .undef)), (14, .ept (.s 60) y.toNat 0 [.int .i64 b0.script, .undef]), (74, .mpt 60 (y.toNat * 2 + 1) 3 1 (some (b0.marks.map encI)))] [(12, stpV l s ps es sd m1 m2 m3 m4)] true) (le_mk ⟨rfl, rfl, rfl, rfl, rfl, rfl, rfl, ept_u, rfl, trivial⟩ ⟨rfl, trivial⟩ rfl) ?_
        generalize y.toNat = k at hb0 ⊢
        obtain ⟨m0, hm0⟩ : ∃ m0, b0.marks[0]? = some m0 := ⟨_, List.getElem?_eq_getElem (by omega)⟩
        conv => whnf
        refine draw_i 8 (.take 0 (.take 1 (.take 2 (.take 4 (.alt 3 (.alt 5 (.alt 6 (.take 7 (.alt 8 .done .stop)) .stop) .stop) (.alt 5 (.alt 3 (.alt 6 (.take 7 (.alt 8 .done .stop)) .stop) (.alt 6 (.alt 3 (.take 7 (.alt 8 .done .stop)) .stop) .stop)) .stop)))))) (by decide +kernel) ?_
        (conv => whnf); (repeat' (first | (refine arith_i ⟨by omega, by omega⟩ ?_; conv => whnf) | (refine arith_u ⟨by omega, by omega⟩ ?_; conv => whnf) | (refine arith_8 ⟨by omega, by omega⟩ ?_; conv => whnf) | (refine need_i (by first | omega | (simp only [List.length_cons, List.length_nil]; omega) | (simp only [List.length_append, List.length_cons, List.length_nil, List.length_map, List.length_replicate, List.length_modify]; omega)) ?_; conv => whnf) | ((with_reducible first | refine branch_tt ?_ | refine branch_ff ?_); conv => whnf) | (with_reducible refine branch_not ?_) | ((((with_reducible refine And.intro ?_ ?_) <;> (conv => whnf))); conv => whnf) | (((with_reducible exact trivial)); conv => whnf) | (((refine call_i (pick_ok [-1, 0, 99] (by decide) (by decide)) fun r hr => ?_; obtain ⟨z, rfl, hz⟩ := hr)); conv => whnf) | (((refine lnk_r (lk_i 74 rfl rfl ?_))); conv => whnf) | ((refine idx_ms (by omega) hm0 ?_); conv => whnf) | ((with_reducible first | refine slc_e ?_ | refine callS_a ?_ | refine bld_a ?_ | refine own_e ?_ | refine mkmap_b ?_ | refine lnk_a ?_); conv => whnf) | ((with_reducible first | refine branch_d (fun hq => ?_) (fun hq => ?_) | refine branch_e (fun hq => ?_) (fun hq => ?_) | refine branch_n (fun hq => ?_) (fun hq => ?_) | refine branch_i (fun hq => ?_) (fun hq => ?_)) <;> (try (exfalso; omega)) <;> (conv => whnf))))
        all_goals try exact trivial
        all_goals exact hid.out _ (sd.set k ⟨b0.script, b0.marks.set 0 z⟩) (sds_set (sds_of H) k _ (by rw [List.length_set]; omega)) (Le.trans (le_unlink 13 74 60 (k * 2 + 1) k 1 rfl mpt_u rfl (by decide) (by rw [List.length_modify, LD]; exact (List.getElem?_eq_some_iff.1 hb0).1)) (Le.trans (le_erase 60) (le_mk ⟨rfl, rfl, rfl, rfl, rfl, rfl, sed_u hb0, trivial⟩ ⟨rfl, trivial⟩ rfl)))
  · rcases Nat.lt_or_ge 600 xs.length with h6 | h6
    · refine good_of mixed tabOk Try.func3 rfl rfl Try.ntmps3 Try.results3 rfl rfl ?_
      (conv => whnf); (repeat' (first | (refine arith_i ⟨by omega, by omega⟩ ?_; conv => whnf) | (refine arith_u ⟨by omega, by omega⟩ ?_; conv => whnf) | (refine arith_8 ⟨by omega, by omega⟩ ?_; conv => whnf) | (refine need_i (by first | omega | (simp only [List.length_cons, List.length_nil]; omega) | (simp only [List.length_append, List.length_cons, List.length_nil, List.length_map, List.length_replicate, List.length_modify]; omega)) ?_; conv => whnf) | ((with_reducible first | refine branch_tt ?_ | refine branch_ff ?_); conv => whnf) | (with_reducible refine branch_not ?_) | ((refine call_e ((light_ok xs).mono fun r h => h.trans (bool_eq (decide_eq_false (by omega) : _ = false))) ?_); conv => whnf) | ((refine call_e sane26_ok ?_); conv => whnf) | ((with_reducible first | refine slc_e ?_ | refine callS_a ?_ | refine bld_a ?_ | refine own_e ?_ | refine mkmap_b ?_ | refine lnk_a ?_); conv => whnf) | (refine draw_i 9 plGL26v_0 (by decide +kernel) ?_; (conv => whnf); fail_if_success (guard_target =~ False)) | (refine draw_i 8 plGL26v_1 (by decide +kernel) ?_; (conv => whnf); fail_if_success (guard_target =~ False)) | (refine draw_i 16 plGL26v_2 (by decide +kernel) ?_; (conv => whnf); fail_if_success (guard_target =~ False)) | (refine draw_i 10 plGL26v_3 (by decide +kernel) ?_; (conv => whnf); fail_if_success (guard_target =~ False)) | (refine draw_i 10 plGL26v_4 (by decide +kernel) ?_; (conv => whnf); fail_if_success (guard_target =~ False)) | (refine draw_i 15 plGL26v_5 (by decide +kernel) ?_; (conv => whnf); fail_if_success (guard_target =~ False)) | (refine draw_i 15 plGL26v_6 (by decide +kernel) ?_; (conv => whnf); fail_if_success (guard_target =~ False)) | (refine draw_i 38 plGL26v_7 (by decide +kernel) ?_; (conv => whnf); fail_if_success (guard_target =~ False)) | ((with_reducible refine And.intro ?_ ?_) <;> (conv => whnf)) | (with_reducible exact trivial) | ((with_reducible first | refine branch_d (fun hq => ?_) (fun hq => ?_) | refine branch_e (fun hq => ?_) (fun hq => ?_) | refine branch_n (fun hq => ?_) (fun hq => ?_) | refine branch_i (fun hq => ?_) (fun hq => ?_)) <;> (try (exfalso; omega)) <;> (conv => whnf))))
      exact ret_p rfl rfl
    · refine good_of mixed tabOk Try.func3 rfl rfl Try.ntmps3 Try.results3 rfl rfl ?_
      (conv => whnf); (repeat' (first | (refine arith_i ⟨by omega, by omega⟩ ?_; conv => whnf) | (refine arith_u ⟨by omega, by omega⟩ ?_; conv => whnf) | (refine arith_8 ⟨by omega, by omega⟩ ?_; conv => whnf) | (refine need_i (by first | omega | (simp only [List.length_cons, List.length_nil]; omega) | (simp only [List.length_append, List.length_cons, List.length_nil, List.length_map, List.length_replicate, List.length_modify]; omega)) ?_; conv => whnf) | ((with_reducible first | refine branch_tt ?_ | refine branch_ff ?_); conv => whnf) | (with_reducible refine branch_not ?_) | ((refine call_e ((light_ok xs).mono fun r h => h.trans (bool_eq (decide_eq_true (by omega) : _ = true))) ?_); conv => whnf) | ((refine call_e sane26_ok ?_); conv => whnf) | ((with_reducible first | refine slc_e ?_ | refine callS_a ?_ | refine bld_a ?_ | refine own_e ?_ | refine mkmap_b ?_ | refine lnk_a ?_); conv => whnf) | (refine draw_i 9 plGL26v_0 (by decide +kernel) ?_; (conv => whnf); fail_if_success (guard_target =~ False)) | (refine draw_i 8 plGL26v_1 (by decide +kernel) ?_; (conv => whnf); fail_if_success (guard_target =~ False)) | (refine draw_i 16 plGL26v_2 (by decide +kernel) ?_; (conv => whnf); fail_if_success (guard_target =~ False)) | (refine draw_i 10 plGL26v_3 (by decide +kernel) ?_; (conv => whnf); fail_if_success (guard_target =~ False)) | (refine draw_i 10 plGL26v_4 (by decide +kernel) ?_; (conv => whnf); fail_if_success (guard_target =~ False)) | (refine draw_i 15 plGL26v_5 (by decide +kernel) ?_; (conv => whnf); fail_if_success (guard_target =~ False)) | (refine draw_i 15 plGL26v_6 (by decide +kernel) ?_; (conv => whnf); fail_if_success (guard_target =~ False)) | (refine draw_i 38 plGL26v_7 (by decide +kernel) ?_; (conv => whnf); fail_if_success (guard_target =~ False)) | ((with_reducible refine And.intro ?_ ?_) <;> (conv => whnf)) | (with_reducible exact trivial) | ((with_reducible first | refine branch_d (fun hq => ?_) (fun hq => ?_) | refine branch_e (fun hq => ?_) (fun hq => ?_) | refine branch_n (fun hq => ?_) (fun hq => ?_) | refine branch_i (fun hq => ?_) (fun hq => ?_)) <;> (try (exfalso; omega)) <;> (conv => whnf))))
      all_goals exact ret_p rfl rfl
end Go.Proofs.Ythgnomniboindaa
end
